/- Parts of the proof. -/
import Derived.Test.YtncnnbmeacpboaaGreatDoorLIs20
set_option maxHeartbeats 8000000
set_option maxRecDepth 100000
set_option linter.unusedVariables false
set_option linter.unusedSimpArgs false
namespace Go.aa
open Go.RowKit
variable {B lo hi n:Nat} {S F F0:Nat->Prop} {a b c w W:World} {x:D} {cs:List Value} {e:TypeId} {o:Oper} {K:Act->World->Prop} {Q:Exit->Act->World->Prop} {m:List (Bs×Bs)} {t:bH}
theorem Ic{P:Program}(w:World)(T K E:TypeId)(b:Nat)(t:List (Int×Value))(k:Int)(z:Value)(hT:P.underlying T=some (.map K E))(hK:P.underlying K=some (.int .i64))(hz:∀w,(zeroValue E).run P w=.ok z w)(h:nA w b t):
  (Instr.lookup T (.map (some b)) (.int .i64 k) true).run P w=.ok (.tuple #[(iE t k).getD z,.bool (iE t k).isSome]) w:=by
 unfold Instr.lookup;rcases qI k z t 0 0 with⟨h1,h2,_⟩|⟨u,j,h1,h2,_⟩
 ·simp only[Sem.run_bind,run_underlying hT,Result.andThen_ok,MapKept.run_getObj_map h,Sem.run_pure,MapKept.run_checkKey (P:=P) hK (k:=.int .i64 k) rfl,MapKept.run_findKey hK h2,hz,h1];rfl
 ·simp only[Sem.run_bind,run_underlying hT,Result.andThen_ok,MapKept.run_getObj_map h,Sem.run_pure,MapKept.run_checkKey (P:=P) hK (k:=.int .i64 k) rfl,MapKept.run_findKey hK h2,h1];rfl
structure NH where
 c:aK
 f:aK
abbrev NH.cells(y:NH)(d:Qt):List Value:=[.int .i64 d.kind,.slice y.c.a d.iC.length y.c.cap,.slice y.f.a d.fixes.length y.f.cap]
def lastT:List (Int×Value):=[(1,.string ⟨jd.toArray⟩),(3,.string ⟨l8.toArray⟩)]
theorem Hl(k:Int):iE lastT k=(kF 1 3 k).map (fun s=>.string ⟨s.toArray⟩):=by
 unfold iE lastT kF;by_cases h1:k=1
 ·subst h1;rfl
 ·by_cases h3:k=3
  ·subst h3;rfl
  ·have e1:((1:Int)==k)=false:=by simpa using fun e=>h1 e.symm
   have e3:((3:Int)==k)=false:=by simpa using fun e=>h3 e.symm
   simp[List.find?_cons,e1,e3,h1,h3]
theorem CY{k:Int}{s:Bs}(h:kF 1 3 k=some s):s.length<=1000:=by
 unfold kF at h;split at h
 ·obtain rfl:=Option.some.inj h;decide
 ·split at h
  ·obtain rfl:=Option.some.inj h;decide
  ·cases h
theorem wG{s:aF}{l:List bq}{X:List Ins}{ahead:Bs}:∀ {q:List (List Int)},(bz s l X ahead q).2=0->(bz s l X ahead q).1=jO s l X ahead q
 |[],_=>rfl
 |p::r,h=>by
  rw[bz] at h ⊢;by_cases h1:(dR s l (iV X p)).2=0
  ·rw[if_neg (by simpa using h1)] at h ⊢;by_cases h2:(bz s l X ahead r).2=0
   ·rw[if_neg (by simpa using h2),wG h2];simp[jO]
   ·rw[if_pos h2] at h;exact absurd h h2
  ·rw[if_pos h1] at h;exact absurd h h1
theorem Cy{s:aF}{l:List bq}{X:List Ins}{ahead:Bs}{q:List (List Int)}(hl:l.length<=1000)(hq:q.length<=1000)(hp:∀p∈q,p.length<=1000)(h:(bz s l X ahead q).2=0):(bz s l X ahead q).1.length<=1001001000:=by
 rw[wG h];exact Nat.le_trans (rX hl q hp) (Nat.le_trans (Nat.mul_le_mul_right _ hq) (by decide))
theorem pQ(h:Below B a b)(k:Mod S b c)(hB:B<=b.heap.size)(hS:∀i,S i->B<=i):Below B a c:=h.trans (k.below hB hS)
end Go.aa
namespace Go.Proofs.YtncnnbmeacpboaaGreatDoor
open Go.RowKit Go.aa
attribute [local go_sem] Oper.semAt_some
variable {B lo hi n:Nat} {S F F0:Nat->Prop} {a b c w W:World} {x:D} {cs:List Value} {e:TypeId} {o:Oper} {K:Act->World->Prop} {Q:Exit->Act->World->Prop} {m:List (Bs×Bs)} {t:bH}
theorem F5(s:aF)(x:bS)(l:List bq)(z:aK)(xs:List gp)(xa:aK)(d:Qt)(y:NH)(w:World)(hI:iL)(hs:dD w (·<w.heap.size) s x)(hf:gQ s)(hz:aj w (·<w.heap.size) (l.map bq.toD) z)(hl:l.length<=1000)(hfr:∀r∈l,gF r)(hx:aj w (·<w.heap.size) (xs.map gp.toD) xa)(hxl:xs.length<=1000000)(hbl:∀i∈xs,i.binds.length<=2000000)(hc:aj w (·<w.heap.size) (ja d.iC) y.c)(hfx:aj w (·<w.heap.size) (ja d.fixes) y.f)(hcl:d.iC.length<=1000)(hfl:d.fixes.length<=1000)(hcp:∀p∈d.iC,p.length<=1000)(hfp:∀p∈d.fixes,p.length<=1000)(hg:GS w):
  Calls Tryz.prog 15 #[.agg (x.cells s).toArray,.slice z.a l.length z.cap,.slice xa.a xs.length xa.cap,.agg (y.cells d).toArray] w (ql w (CX 1 3 s l (xs.map gp.ins) d)):=by
 obtain⟨R,hR⟩:∃R,R=CX 1 3 s l (xs.map gp.ins) d:=⟨_,rfl⟩;rw[<-hR];obtain⟨BS,Py⟩:∃BS,BS=w.heap.size:=⟨_,rfl⟩;obtain⟨LB,iN⟩:∃LB,LB=BS+1:=⟨_,rfl⟩;obtain⟨XB,RH⟩:∃XB,XB=BS+1+1:=⟨_,rfl⟩;obtain⟨YB,VO⟩:∃YB,YB=BS+1+1+1:=⟨_,rfl⟩;obtain⟨W1,hW1⟩:∃W1,W1=w.alloc (.cells (x.cells s).toArray 28):=⟨_,rfl⟩;obtain⟨W2,hW2⟩:∃W2,W2=W1.alloc (.cells #[.slice z.a l.length z.cap] 29):=⟨_,rfl⟩;obtain⟨W3,hW3⟩:∃W3,W3=W2.alloc (.cells #[.slice xa.a xs.length xa.cap] 38):=⟨_,rfl⟩;obtain⟨W4,wU⟩:∃W4,W4=W3.alloc (.cells (y.cells d).toArray 45):=⟨_,rfl⟩;have hs1:W1.heap.size=BS+1:=by rw[hW1,Py];simp
 have hs2:W2.heap.size=BS+2:=by rw[hW2];simp[hs1]
 have hs3:W3.heap.size=BS+3:=by rw[hW3];simp[hs2]
 have hs4:W4.heap.size=BS+4:=by rw[wU];simp[hs3]
 have hb4:Below w.heap.size w W4:=by rw[wU,hW3,hW2,hW1];exact((((Below.refl _ _).alloc (Nat.le_refl _) _).alloc (by simp) _).alloc (by simp;omega) _).alloc (by simp;omega) _
 have g1:W4.heap[BS]?=some (.cells #[.slice x.slots.a s.slots.length x.slots.cap,.slice x.ah.a s.ah.length x.ah.cap,.slice x.people.a s.people.length x.people.cap,.slice x.groups.a s.groups.length x.groups.cap,.slice x.lessons.a s.lessons.length x.lessons.cap] 28 (0,0)):=by rw[wU,af,if_neg (by omega),hW3,af,if_neg (by omega),hW2,af,if_neg (by omega),hW1,af,if_pos Py]
 have g2:W4.heap[LB]?=some (.cells #[.slice z.a l.length z.cap] 29 (0,0)):=by rw[wU,af,if_neg (by omega),hW3,af,if_neg (by omega),hW2,af,if_pos (by omega)]
 have g3:W4.heap[XB]?=some (.cells #[.slice xa.a xs.length xa.cap] 38 (0,0)):=by rw[wU,af,if_neg (by omega),hW3,af,if_pos (by omega)]
 have g4:W4.heap[YB]?=some (.cells #[.int .i64 d.kind,.slice y.c.a d.iC.length y.c.cap,.slice y.f.a d.fixes.length y.f.cap] 45 (0,0)):=by rw[wU,af,if_pos (by omega)]
 have qh:=Lh (qc s x l z W4 hI (hs.later hb4 hb4.size) hf (hz.later hb4 hb4.size) (by omega) hfr (hg.below hb4).gg);have PX:Hid (∀W,Below BS w W->dD W (·<BS) s x/\aj W (·<BS) (l.map bq.toD) z/\aj W (·<BS) (xs.map gp.toD) xa/\aj W (·<BS) (ja d.iC) y.c/\aj W (·<BS) (ja d.fixes) y.f):=Lh (fun W hW=>by
  rw[Py] at hW ⊢;exact⟨hs.agree (ag hW),hz.agree (ag hW),hx.agree (ag hW),hc.agree (ag hW),hfx.agree (ag hW)⟩)
 have Aw:=Lh (fun(h0:okF s l=0) (lo OB:Nat) (ahead:Bs) (sets:List (List Int)) (sa:aK) (outs:List Bs) (v0:Value) (W:World) (hb:Below w.heap.size w W) (hE:Gq W BS lo s x l z xs xa XB BS LB) (DC:BS+4<=OB/\OB<lo) (ho:W.heap[OB]?=some (.cells #[v0] 47 (0,0))) (hown:fP W lo (fun _=>False) 9 1 v0 (outs.map bM)) (hol:outs.length<=4000000000) (hss:aj W (·<BS) (ja sets) sa) (hsl:sets.length<=1000) (hpl:∀p∈sets,p.length<=1000) (hodd:sets.any (jf (xs.map gp.ins))=false) (hah:ahead.length<=1000)=>M0 w BS lo s x l z xs xa XB BS LB OB ahead sets sa outs v0 W hI hf hl hfr hbl hxl hg hb h0 hE (by omega) ho hown hol hss hsl hpl hodd hah);have Na:=Lh hl;have HL:=Lh (aI hcl (aI hfl (aI hcp hfp)));have HK:=Lh (aI hb4 (aI g1 (aI g2 (aI g3 (aI g4 (aI hs4 (aI Py (aI iN (aI RH VO)))))))));have HW:=Lh (aI hW1 (aI hW2 (aI hW3 wU)));obtain⟨ok,hok⟩:∃ok,ok=okF s l:=⟨_,rfl⟩;rw[<-hok] at qh Aw;have xP:=Lh hok;have HR:=Lh hR;simp only[bS.cells,aK.val,NH.cells] at qh HW ⊢;have d0:W4.cell? ⟨BS,0,none⟩=some (.slice x.slots.a s.slots.length x.slots.cap):=cH g1 rfl;have d1:W4.cell? ⟨BS,1,none⟩=some (.slice x.ah.a s.ah.length x.ah.cap):=cH g1 rfl;have d2:W4.cell? ⟨BS,2,none⟩=some (.slice x.people.a s.people.length x.people.cap):=cH g1 rfl;have d3:W4.cell? ⟨BS,3,none⟩=some (.slice x.groups.a s.groups.length x.groups.cap):=cH g1 rfl;have d4:W4.cell? ⟨BS,4,none⟩=some (.slice x.lessons.a s.lessons.length x.lessons.cap):=cH g1 rfl;have l0:W4.cell? ⟨LB,0,none⟩=some (.slice z.a l.length z.cap):=cH g2 rfl;clear hs hf hz hfr hx hbl hg hok hR hc hfx hcp hfp g1 g2 g3 g4 hI hs1 hs2 hs3 hs4 hb4 hW1 hW2 hW3 wU;go_enter Tryz.func15,Tryz.ntmps15;go_upto_region 1 with fail
 rw[<-HW.out.1,<-HW.out.2.1,<-HW.out.2.2.1,<-HW.out.2.2.2,<-Py,<-VO,<-RH,<-iN];clear Py iN RH VO;go_wp2_with fail;refine qh.out.mono ?_;rintro e w5 ⟨rfl,hb5⟩;have Zr:=HK.out.2.2.2.2.2;have Te:=HK.out.1.trans (hb5.mono HK.out.1.size);have k3:=(hb5.block _ (gS HK.out.2.2.2.1).1).trans HK.out.2.2.2.1;have k4:=(hb5.block _ (gS HK.out.2.2.2.2.1).1).trans HK.out.2.2.2.2.1;have k1:=(hb5.block _ (gS HK.out.2.1).1).trans HK.out.2.1;have k2:=(hb5.block _ (gS HK.out.2.2.1).1).trans HK.out.2.2.1;have H5:=Lh (aI Te (aI k1 (aI k2 (aI k3 (aI k4 hb5.size)))));clear hb5 Te k1 k2 k3 k4 Zr d0 d1 d2 d3 d4 l0 qh;by_cases h0:ok=0;rotate_left
 ·have h1:(ok==0)=false:=by simpa using h0
  have kr:Hid (R=([],ok)):=Lh (by rw[HR.out,CX,<-xP.out,if_pos h0]);go_wp2_with fail;go_ret2;exact ql.nil kr.out H5.out.1
 subst h0;obtain⟨X,hX⟩:∃X,X=xs.map gp.ins:=⟨_,rfl⟩;have Pp:Hid (R=match kF 1 3 d.kind with|none=>([],1)|some last=>if(d.iC.any (jf X)||d.fixes.any (jf X))=true then([],1) else if(bz s l X gG d.iC).2≠0 then([],(bz s l X gG d.iC).2) else if(bz s l X fu d.fixes).2≠0 then([],(bz s l X fu d.fixes).2) else((bz s l X gG d.iC).1++((bz s l X fu d.fixes).1++[last]),0)):=Lh (by rw[HR.out,CX,<-xP.out,if_neg (by decide),hX];cases kF 1 3 d.kind<;>rfl);have JM:Hid (∀(q:List (List Int)) (qa:aK) (W:World),Below w5.heap.size w5 W->aj W (·<W.heap.size) (ja q) qa->q.length<=1000->(∀p∈q,p.length<=1000)->Calls Tryz.prog 35 #[.slice qa.a q.length qa.cap,.func (.func 32) #[] #[.pointer (some ⟨XB,0,none⟩)]] W fun e w'=>e=.returned (.bool (q.any (jf X)))/\Below W.heap.size W w'):=Lh (fun q qa W hW h1 h2 h3=>Fb q qa X xa.cap XB xa.a W h1 (by omega) (fun p hp=>by have:=h3 p hp;omega) (by
  have k3:=(hW.block _ (gS H5.out.2.2.2.1).1).trans H5.out.2.2.2.1;rw[show X.length=xs.length by rw[hX,List.length_map]];exact cH k3 rfl))
 have Vs:=Lh hX;clear HR hX;have hmm:= @run_makeMap Tryz.prog;have Od:∀(fn:Fn) (first cap:Array Value) (w:World),(Instr.makeFunc fn first cap).run Tryz.prog w=.ok (.func fn first cap) w:=fun _ _ _ _=>rfl;have hn0:=yw w5;have hp1:=zH (P:=Tryz.prog) (w5.alloc (.map #[] 0)) 80 _ _ w5.heap.size [] 1 (.string ⟨jd.toArray⟩) Tryz.underlying80 Tryz.underlying3 hn0;obtain⟨W7,SV⟩:∃W7,W7=(w5.alloc (.map #[] 0)).putObj w5.heap.size (.map (il 0 (fF [] 1 (.string ⟨jd.toArray⟩))).toArray (fF [] 1 (.string ⟨jd.toArray⟩)).length):=⟨_,rfl⟩;have X7:nA W7 w5.heap.size [(1,.string ⟨jd.toArray⟩)]:=by rw[SV];exact rU (t:=[(1,.string ⟨jd.toArray⟩)]) (by simp)
 rw[<-SV] at hp1;have hs7:W7.heap.size=w5.heap.size+1:=by rw[SV];simp
 have XU:aa.Mod (fun k=>k=w5.heap.size) w5 W7:=by rw[SV];exact((aa.Mod.refl (fun k=>k=w5.heap.size) w5).alloc _).trans (aa.Mod.putObj _ _ _) (fun k _ hk=>hk)
 have hp2:=zH (P:=Tryz.prog) W7 80 _ _ w5.heap.size [(1,.string ⟨jd.toArray⟩)] 3 (.string ⟨l8.toArray⟩) Tryz.underlying80 Tryz.underlying3 X7;obtain⟨W8,Db⟩:∃W8,W8=W7.putObj w5.heap.size (.map (il 0 (fF [(1,.string ⟨jd.toArray⟩)] 3 (.string ⟨l8.toArray⟩))).toArray (fF [(1,.string ⟨jd.toArray⟩)] 3 (.string ⟨l8.toArray⟩)).length):=⟨_,rfl⟩;have X8:nA W8 w5.heap.size lastT:=by rw[Db];exact rU (t:=lastT) (by omega)
 rw[<-Db] at hp2;have Pz:aa.Mod (fun k=>k=w5.heap.size) w5 W8:=by rw[Db];exact XU.trans (aa.Mod.putObj _ _ _) (fun k _ hk=>hk)
 have Oi:W8.heap.size=w5.heap.size+1:=by rw[Db];simp[hs7]
 have hlk:=Ic (P:=Tryz.prog) W8 80 _ _ w5.heap.size lastT d.kind (.string ⟨#[]⟩) Tryz.underlying80 Tryz.underlying3 Tryz.zeroValue9 X8;rw[Hl] at hlk;have Jw:Below w5.heap.size w5 W8:=Pz.below (Nat.le_refl _) (fun k hk=>by omega);have H8:=Lh (aI Jw Oi);have k4:=(Jw.block _ (gS H5.out.2.2.2.2.1).1).trans H5.out.2.2.2.2.1;have y0:W8.cell? ⟨YB,0,none⟩=some (.int .i64 d.kind):=cH k4 rfl;have y1:W8.cell? ⟨YB,1,none⟩=some (.slice y.c.a d.iC.length y.c.cap):=cH k4 rfl;have y2:W8.cell? ⟨YB,2,none⟩=some (.slice y.f.a d.fixes.length y.f.cap):=cH k4 rfl;have e1:(⟨jd.toArray⟩:ByteArray)=⟨#[116,104,97,116,32,105,115,32,97,108,108]⟩:=rfl;have e2:(⟨l8.toArray⟩:ByteArray)=⟨#[116,104,101,114,101,32,109,97,121,32,98,101,32,109,111,114,101]⟩:=rfl;rw[e1] at hp1;rw[e2] at hp2;clear hn0 SV X7 hs7 XU Db X8 Pz Oi Jw k4 e1 e2;have R6:=Lh (fun(s:Bs) (h:kF 1 3 d.kind=some s)=>CY h);generalize kF 1 3 d.kind=wl at hlk Pp R6;cases wl with
 |none=>
  simp only[Option.map_none,Option.getD_none,Option.isSome_none] at hlk;have kr:Hid (R=([],1)):=Lh Pp.out;go_wp2_with fail;go_ret2;exact ql.nil kr.out (H5.out.1.trans (H8.out.1.mono H5.out.1.size))
 |some last=>
  simp only[Option.map_some,Option.getD_some,Option.isSome_some] at hlk;simp only at Pp;have R5:=Lh (R6.out last rfl);have Us:Hid (∀W,Below w5.heap.size w5 W->W.cell? ⟨YB,1,none⟩=some (.slice y.c.a d.iC.length y.c.cap)/\W.cell? ⟨YB,2,none⟩=some (.slice y.f.a d.fixes.length y.f.cap)/\Below w.heap.size w W/\aj W (·<W.heap.size) (ja d.iC) y.c/\aj W (·<W.heap.size) (ja d.fixes) y.f):=Lh (fun W hW=>by
   have k4:=(hW.block _ (gS H5.out.2.2.2.2.1).1).trans H5.out.2.2.2.2.1;have hb:=H5.out.1.trans (hW.mono H5.out.1.size);have Py:=HK.out.2.2.2.2.2.2.1;have PD:=PX.out W (by rw[Py];exact hb);have hsz:=hb.size;exact⟨cH k4 rfl,cH k4 rfl,hb,PD.2.2.2.1.mono (fun k hk=>by omega),PD.2.2.2.2.mono (fun k hk=>by omega)⟩)
  have pK:=Lh (JM.out d.iC y.c W8 H8.out.1 (Us.out W8 H8.out.1).2.2.2.1 HL.out.1 HL.out.2.2.1);have uC:=Lh (fun(W:World) (hW:Below w5.heap.size w5 W)=>JM.out d.fixes y.f W hW (Us.out W hW).2.2.2.2 HL.out.2.1 HL.out.2.2.2);obtain⟨b1,hb1⟩:∃b1,b1=d.iC.any (jf X):=⟨_,rfl⟩;obtain⟨b2,hb2⟩:∃b2,b2=d.fixes.any (jf X):=⟨_,rfl⟩;rw[<-hb1] at pK Pp;rw[<-hb2] at Pp;simp only[<-hb2] at uC;have HB1:=Lh hb1;have HB2:=Lh hb2;clear hb1 hb2;go_wp2_with fail;refine pK.out.mono ?_;rintro e w9 ⟨rfl,PC⟩;have H9:=Lh (H8.out.1.trans (PC.mono H8.out.1.size));clear PC y0 y1 y2 hlk hp1 hp2 pK;cases b1;rotate_left
  ·have kr:Hid (R=([],1)):=Lh (Pp.out.trans (if_pos rfl));go_wp2_with fail;go_ret2;exact ql.nil kr.out (H5.out.1.trans (H9.out.mono H5.out.1.size))
  obtain⟨y1,y2,_⟩:=Us.out w9 H9.out;have uC:=Lh (uC.out w9 H9.out);go_wp2_with fail;refine uC.out.mono ?_;rintro e nz ⟨rfl,rP⟩;have yO:=Lh (H9.out.trans (rP.mono H9.out.size));clear rP y1 y2 uC;cases b2;rotate_left
  ·have kr:Hid (R=([],1)):=Lh (Pp.out.trans (if_pos rfl));go_wp2_with fail;go_ret2;exact ql.nil kr.out (H5.out.1.trans (yO.out.mono H5.out.1.size))
  have Gg:=Lh (Pp.out.trans (if_neg (by decide)));obtain⟨OB,DC⟩:∃OB,OB=nz.heap.size:=⟨_,rfl⟩;obtain⟨Ju,KL⟩:∃Ju,Ju=nz.alloc (.cells #[.slice none 0 0] 47):=⟨_,rfl⟩;have Tv:Ju.heap.size=OB+1:=by rw[KL,DC];simp
  have GV:Below w5.heap.size w5 Ju:=yO.out.trans ((show Below nz.heap.size nz Ju by rw[KL];exact(Below.refl _ _).alloc (Nat.le_refl _) _).mono yO.out.size);have k20:Ju.heap[OB]?=some (.cells #[.slice none 0 0] 47 (0,0)):=by rw[KL,af,if_pos DC]
  have hsk:=HK.out.2.2.2.2.2;have hs5:=H5.out.2.2.2.2.2;have Oh:=yO.out.size;have Bo:Below w.heap.size w Ju:=H5.out.1.trans (GV.mono H5.out.1.size);have PD:=PX.out Ju (by rw[hsk.2.1];exact Bo);have hE20:Gq Ju BS (OB+1) s x l z xs xa XB BS LB:=⟨PD.1,PD.2.1,PD.2.2.1,(GV.block _ (gS H5.out.2.2.2.1).1).trans H5.out.2.2.2.1,(GV.block _ (gS H5.out.2.1).1).trans H5.out.2.1,(GV.block _ (gS H5.out.2.2.1).1).trans H5.out.2.2.1,by omega⟩;have V8:∀q:List (List Int),q.any (jf X)=q.any (jf (xs.map gp.ins)):=fun q=>by rw[Vs.out]
  have Fp:=Lh (Aw.out (by first|rfl|trivial) (OB+1) OB gG d.iC y.c [] (.slice none 0 0) Ju Bo hE20 (by omega) k20 (fP.nil _ _ _ _ _ (fun _ h=>h.elim)) (by simp) PD.2.2.2.1 HL.out.1 HL.out.2.2.1 (by rw[<-V8];exact HB1.out.symm) (by decide));rw[<-Vs.out] at Fp;have Po:Hid (∀(W:World) (outs:List Bs) (v0:Value),aa.Mod (fun k=>k=OB∨OB+1<=k) Ju W->W.heap[OB]?=some (.cells #[v0] 47 (0,0))->fP W (OB+1) (fun _=>False) 9 1 v0 (outs.map bM)->outs.length<=4000000000->Calls Tryz.prog 36 #[.string ⟨fu.toArray⟩,.slice y.f.a d.fixes.length y.f.cap,.pointer (some ⟨XB,0,none⟩),.pointer (some ⟨BS,0,none⟩),.pointer (some ⟨LB,0,none⟩),.pointer (some ⟨OB,0,none⟩)] W (XD W OB (OB+1) outs (bz s l X fu d.fixes))):=Lh (fun W outs v0 hM hk ho hol=>by
   have hbW:=pQ Bo hM (by omega) (fun i hi=>by omega);have VS:=PX.out W (by rw[hsk.2.1];exact hbW);rw[Vs.out];exact Aw.out (by first|rfl|trivial) (OB+1) OB fu d.fixes y.f outs v0 W hbW (hE20.kept hM (by omega) (by omega) (by omega) (by omega)) (by omega) hk ho hol VS.2.2.2.2 HL.out.2.1 HL.out.2.2.2 (by rw[<-V8];exact HB2.out.symm) (by decide))
  have Xh:=Lh ((GV.block _ (gS H5.out.2.2.2.2.1).1).trans H5.out.2.2.2.2.1);have Pb:=Lh (aI Bo (aI Tv (show YB<OB/\BS<=OB/\w.heap.size=BS by omega)));obtain⟨S1,hS1⟩:∃S1,S1=bz s l X gG d.iC:=⟨_,rfl⟩;obtain⟨S2,hS2⟩:∃S2,S2=bz s l X fu d.fixes:=⟨_,rfl⟩;have Qc:Hid (S1.2=0->S1.1.length<=1001001000):=Lh (by rw[hS1];exact fun h=>Cy Na.out HL.out.1 HL.out.2.2.1 h);have Gh:Hid (S2.2=0->S2.1.length<=1001001000):=Lh (by rw[hS2];exact fun h=>Cy Na.out HL.out.2.1 HL.out.2.2.2 h);rw[<-hS1] at Fp Gg;rw[<-hS2] at Po Gg;have Vd:=Lh DC;have Vq:=Lh KL;have y1:Ju.cell? ⟨YB,1,none⟩=some (.slice y.c.a d.iC.length y.c.cap):=cH Xh.out rfl;have hent:∀args w,(callFunc 36 args).run Tryz.prog w=.ok (.enter 36 args) w:=enters_of Tryz.func36 (by kernel_rfl) rfl;have XI:(⟨gG.toArray⟩:ByteArray)=⟨#[116,104,101,115,101,32,99,97,110,39,116,32,98,101,32,116,111,103,101,116,104,101,114,58]⟩:=rfl;have XJ:(⟨fu.toArray⟩:ByteArray)=⟨#[119,105,116,104,111,117,116,32,116,104,101,115,101,32,116,104,101,114,101,32,105,115,32,97,32,119,101,101,107,58]⟩:=rfl;rw[XI] at Fp;rw[XJ] at Po;clear Tv GV k20 hsk hs5 Oh Bo PD hE20 V8 hS1 hS2 DC KL XI XJ Aw JM Us;go_upto_region 9 with fail
  rw[<-Vq.out,<-Vd.out];go_wp2_with fail;refine Fp.out.mono ?_;rintro e YQ ⟨rfl,NW,Oe⟩;rw[List.nil_append] at Oe;obtain⟨l1,XL⟩:=S1;obtain⟨l2,XM⟩:=S2;simp only at Oe Gg Qc Gh Po ⊢;have ky:=av Xh.out NW (by have:=Pb.out.2.2.1;omega);have TY:=Lh (aI NW (aI Oe ky));have Ta:=pQ Pb.out.1 NW (by have:=Pb.out;omega) (fun i hi=>by have:=Pb.out;omega);have Pf:=Lh Ta;clear y1 NW Oe Ta Fp;by_cases QP:XL=0;rotate_left
  ·have Tk:(XL==0)=false:=by simpa using QP
   have kr:=Lh (Gg.out.trans (if_pos QP));clear ky;go_wp2_with fail;go_ret2;exact ql.nil kr.out Pf.out
  subst QP;have Xw:=Lh (Gg.out.trans (if_neg (by decide)));obtain⟨v1,hv1,hw1⟩:=TY.out.2.1 rfl;have Sj:=Lh (Po.out YQ l1 v1 TY.out.1 hv1 hw1 (by have:=Qc.out (by first|rfl|trivial);omega));have y2:YQ.cell? ⟨YB,2,none⟩=some (.slice y.f.a d.fixes.length y.f.cap):=cH ky rfl;clear ky hv1 hw1 Po Gg;go_wp2_with fail;refine Sj.out.mono ?_;rintro e YR ⟨rfl,NY,QR⟩;simp only at QR ⊢;have Tc:=pQ Pf.out NY (by have:=Pb.out;have:=TY.out.1.size;omega) (fun i hi=>by have:=Pb.out;omega);have UQ:=Lh (aI NY (aI QR Tc));have Vl:=Lh (Nat.le_trans TY.out.1.size NY.size);clear y2 NY QR Tc Sj;by_cases DJ:XM=0;rotate_left
  ·have Tk:(XM==0)=false:=by simpa using DJ
   have kr:=Lh (Xw.out.trans (if_pos DJ));go_wp2_with fail;go_ret2;exact ql.nil kr.out UQ.out.2.2
  subst DJ;have Dj:=Lh (Xw.out.trans (if_neg (by decide)));obtain⟨v2,hv2,hw2⟩:=UQ.out.2.1 rfl;obtain⟨va,zR,Ol⟩:=hw2.form;rw[List.length_map] at Ol;obtain⟨OL,NZ⟩:∃OL,OL=l1++l2:=⟨_,rfl⟩;rw[<-NZ] at Ol hw2;have G5:OL.length<=2002002000:=by rw[NZ,List.length_append];have:=Qc.out (by first|rfl|trivial);have:=Gh.out (by first|rfl|trivial);omega
  obtain⟨on,hon⟩:∃on,on=OL.length:=⟨_,rfl⟩;rw[<-hon] at Ol G5;subst Ol;obtain⟨i0,hi,hz0,hz1,hz2⟩:=info_parts oD;have c0:YR.cell? ⟨OB,0,none⟩=some (.slice va on zR):=cH hv2 rfl;have HO:=Lh (aI hw2 (aI hon G5));have Sg:=Lh NZ;clear hv2 hw2 hon G5 NZ;go_wp2_with (at_builtin;go_must (refine bR (B:=YR.heap.size) rfl rfl _ _ 47 rfl 9 i0 _ 1 16 Tryz.underlying47 hi hz0 hz1 hz2 rfl (by decide) (.slice va on zR) (OL.map bM) (bM last) [.string ⟨last.toArray⟩] 9 rfl rfl HO.out.1 (lG (by have:=R5.out;unfold maxLen;omega)) (by have:=Vl.out;have:=Pb.out.2.1;omega) rfl (by rw[List.length_map,<-HO.out.2.1];have:=HO.out.2.2;unfold maxLen;omega) (by rw[List.length_map,<-HO.out.2.1];have:=HO.out.2.2;omega) ?_);intro ao cap w23 KX Td;rw[List.length_map,<-HO.out.2.1] at KX ⊢;have WX:=Lh (aI KX Td);clear KX Td);go_ret2;refine⟨_,by rw[Dj.out];rfl,?_,UQ.out.2.2.trans (WX.out.2.mono (by have:=Pb.out;omega))⟩;rw[Dj.out];obtain⟨x0,hx0,hx1⟩:=WX.out.1.onto.sl (by rw[show OL.map bM++[bM last]=(OL++[last]).map bM by simp,bP bV];simp);rw[show OL.map bM++[bM last]=(l1++(l2++[last])).map bM by rw[Sg.out];simp] at hx0 hx1;exact⟨x0,by rw[aK.val,List.length_map] at hx0;rw[hx0];rfl,hx1⟩
end Go.Proofs.YtncnnbmeacpboaaGreatDoor
namespace Go.aa
open Go.RowKit
variable {B lo hi n:Nat} {S F F0:Nat->Prop} {a b c w W:World} {x:D} {cs:List Value} {e:TypeId} {o:Oper} {K:Act->World->Prop} {Q:Exit->Act->World->Prop} {m:List (Bs×Bs)} {t:bH}
def dM:aF:={ slots:=[⟨[109,111,110,49],0,0⟩],ah:=[⟨[114],0,0,[]⟩],people:=[],groups:=[],lessons:=[⟨[109,97,116,104],[],[]⟩]}
def l6:bq:=⟨[103,111,110,101],true,0,[⟨[108],1⟩,⟨[115],2⟩],.mk 13 [] 0 [] [] [.mk 3 [] 0 [⟨2,[108],0⟩,⟨2,[115],0⟩] [] [],.mk 9 [60] 0 [⟨4,[115],0⟩,⟨1,[],3⟩] [] []]⟩
theorem au.ib{r:List D}{ds:List Value}(h:bg w F x cs)(k:au w F r ds):au w F (x::r) (cs++ds):=by rw[au];exact⟨cs,ds,rfl,h,k⟩
theorem au.gW(h:bg w F x cs):au w F [x] cs:=by rw[au];exact⟨cs,[],(List.append_nil _).symm,h,by rw[au]⟩
def Ii(W:World)(g o:Nat)(v0 v1 v2 v3 v4:Value):World:=((((W.setCell ⟨g,o,none⟩ v0).setCell ⟨g,o+1,none⟩ v1).setCell ⟨g,o+2,none⟩ v2).setCell ⟨g,o+3,none⟩ v3).setCell ⟨g,o+4,none⟩ v4
theorem yz{g:Nat}{c0 c1 c2 c3 c4:Value}(h:W.heap[g]?=some (.cells #[c0,c1,c2,c3,c4] e (0,0)))(v0 v1 v2 v3 v4:Value):(Ii W g 0 v0 v1 v2 v3 v4).heap[g]?=some (.cells #[v0,v1,v2,v3,v4] e (0,0)):=by
 unfold Ii;exact aW _ (aW _ (aW _ (aW _ (aW _ h))))
theorem BZ(W:World)(g o:Nat)(v0 v1 v2 v3 v4:Value):Mod (fun k=>k=g) W (Ii W g o v0 v1 v2 v3 v4):=by
 unfold Ii;exact(((((Mod.refl (fun k=>k=g) _).setCell (p:=⟨g,o,none⟩) (fun _=>rfl) _).setCell (p:=⟨g,o+1,none⟩) (fun _=>rfl) _).setCell (p:=⟨g,o+2,none⟩) (fun _=>rfl) _).setCell (p:=⟨g,o+3,none⟩) (fun _=>rfl) _).setCell (p:=⟨g,o+4,none⟩) (fun _=>rfl) _
end Go.aa
namespace Go.Proofs.YtncnnbmeacpboaaGreatDoor
open Go.RowKit Go.aa
attribute [local go_sem] Oper.semAt_some
variable {B lo hi n:Nat} {S F F0:Nat->Prop} {a b c w W:World} {x:D} {cs:List Value} {e:TypeId} {o:Oper} {K:Act->World->Prop} {Q:Exit->Act->World->Prop} {m:List (Bs×Bs)} {t:bH}
theorem zg(w:World):Calls Tryz.prog 20 #[] w fun e w'=>∃(x:bS) (z:aK),e=.returned (.tuple #[.agg (x.cells dM).toArray,.slice z.a 1 z.cap])/\dD w' (·<w'.heap.size) dM x/\aj w' (·<w'.heap.size) ([l6].map bq.toD) z/\Below w.heap.size w w':=by
 obtain⟨BR,KH⟩:∃BR,BR=w.heap.size:=⟨_,rfl⟩;obtain⟨W0,hW0⟩:∃W0,W0=w.alloc (.cells #[.slice none 0 0,.slice none 0 0,.slice none 0 0,.slice none 0 0,.slice none 0 0] 28):=⟨_,rfl⟩;have hb0:Below w.heap.size w W0:=by rw[hW0];exact(Below.refl _ _).alloc (Nat.le_refl _) _
 have k0:W0.heap[BR]?=some (.cells #[.slice none 0 0,.slice none 0 0,.slice none 0 0,.slice none 0 0,.slice none 0 0] 28 (0,0)):=by rw[hW0,af,if_pos KH]
 have hl0:BR<W0.heap.size:=(gS k0).1;obtain⟨A1,hA1⟩:∃A1,A1=W0.heap.size:=⟨_,rfl⟩;obtain⟨A2,hA2⟩:∃A2,A2=W0.heap.size+1:=⟨_,rfl⟩;obtain⟨A3,hA3⟩:∃A3,A3=W0.heap.size+1+1:=⟨_,rfl⟩;obtain⟨A4,VA⟩:∃A4,A4=W0.heap.size+1+1+1:=⟨_,rfl⟩;obtain⟨W1,hW1⟩:∃W1,W1=(((W0.alloc (.cells #[.string ⟨#[109,111,110,49]⟩,.int .i64 0,.int .i64 0] 86)).alloc (.cells #[.string ⟨#[114]⟩,.int .i64 0,.int .i64 0,.slice none 0 0] 88)).alloc (.cells #[.string ⟨#[109,97,116,104]⟩,.slice none 0 0,.slice none 0 0] 90)).alloc (.cells #[.slice (some ⟨W0.heap.size,0,none⟩) 1 1,.slice (some ⟨W0.heap.size+1,0,none⟩) 1 1,.slice none 0 0,.slice none 0 0,.slice (some ⟨W0.heap.size+1+1,0,none⟩) 1 1] 28):=⟨_,rfl⟩;have Wn:W1.heap.size=W0.heap.size+4:=by rw[hW1];simp
 have kA1:W1.heap[A1]?=some (.cells #[.string ⟨#[109,111,110,49]⟩,.int .i64 0,.int .i64 0] 86 (0,0)):=by
  rw[hW1,hA1];simp only[af,World.size_alloc]
  repeat(first|rw[if_pos trivial]|rw[if_pos (by omega)]|rw[if_neg (by omega)])
 have kA2:W1.heap[A2]?=some (.cells #[.string ⟨#[114]⟩,.int .i64 0,.int .i64 0,.slice none 0 0] 88 (0,0)):=by
  rw[hW1,hA2];simp only[af,World.size_alloc]
  repeat(first|rw[if_pos trivial]|rw[if_pos (by omega)]|rw[if_neg (by omega)])
 have kA3:W1.heap[A3]?=some (.cells #[.string ⟨#[109,97,116,104]⟩,.slice none 0 0,.slice none 0 0] 90 (0,0)):=by
  rw[hW1,hA3];simp only[af,World.size_alloc]
  repeat(first|rw[if_pos trivial]|rw[if_pos (by omega)]|rw[if_neg (by omega)])
 have Wu:W1.heap[A4]?=some (.cells #[.slice (some ⟨W0.heap.size,0,none⟩) 1 1,.slice (some ⟨W0.heap.size+1,0,none⟩) 1 1,.slice none 0 0,.slice none 0 0,.slice (some ⟨W0.heap.size+1+1,0,none⟩) 1 1] 28 (0,0)):=by
  rw[hW1,VA];simp only[af,World.size_alloc]
  repeat(first|rw[if_pos trivial]|rw[if_pos (by omega)]|rw[if_neg (by omega)])
 have hbW1:Below W0.heap.size W0 W1:=by rw[hW1];exact(((((Below.refl _ _).alloc (by simp) _).alloc (by simp<;>omega) _).alloc (by simp<;>omega) _).alloc (by simp<;>omega) _)
 rw[<-hA3,<-hA2,<-hA1] at Wu;have VU:A1<W1.heap.size/\A2<W1.heap.size/\A3<W1.heap.size/\A4<W1.heap.size:=by omega
 obtain⟨C1,Uy⟩:∃C1,C1=W1.heap.size:=⟨_,rfl⟩;obtain⟨C2,hC2⟩:∃C2,C2=W1.heap.size+1:=⟨_,rfl⟩;obtain⟨W2,hW2⟩:∃W2,W2=(W1.alloc (.cells #[.int .i64 2,.string ⟨#[108]⟩,.int .i64 0,.int .i64 2,.string ⟨#[115]⟩,.int .i64 0] 92)).alloc (.cells #[.int .i64 3,.string ⟨#[]⟩,.int .i64 0,.slice (some ⟨W1.heap.size,0,none⟩) 2 2,.slice none 0 0,.slice none 0 0] 64):=⟨_,rfl⟩;have Wo:W2.heap.size=W1.heap.size+2:=by rw[hW2];simp
 have Yh:W2.heap[C1]?=some (.cells #[.int .i64 2,.string ⟨#[108]⟩,.int .i64 0,.int .i64 2,.string ⟨#[115]⟩,.int .i64 0] 92 (0,0)):=by
  rw[hW2,Uy];simp only[af,World.size_alloc]
  repeat(first|rw[if_pos trivial]|rw[if_pos (by omega)]|rw[if_neg (by omega)])
 have UJ:W2.heap[C2]?=some (.cells #[.int .i64 3,.string ⟨#[]⟩,.int .i64 0,.slice (some ⟨W1.heap.size,0,none⟩) 2 2,.slice none 0 0,.slice none 0 0] 64 (0,0)):=by
  rw[hW2,hC2];simp only[af,World.size_alloc]
  repeat(first|rw[if_pos trivial]|rw[if_pos (by omega)]|rw[if_neg (by omega)])
 have hbW2:Below W1.heap.size W1 W2:=by rw[hW2];exact(((Below.refl _ _).alloc (by simp) _).alloc (by simp<;>omega) _)
 rw[<-Uy] at UJ;have VV:C1<W2.heap.size/\C2<W2.heap.size:=by omega
 obtain⟨D1,hD1⟩:∃D1,D1=W2.heap.size:=⟨_,rfl⟩;obtain⟨D2,hD2⟩:∃D2,D2=W2.heap.size+1:=⟨_,rfl⟩;obtain⟨W3,hW3⟩:∃W3,W3=(W2.alloc (.cells #[.int .i64 4,.string ⟨#[115]⟩,.int .i64 0,.int .i64 1,.string ⟨#[]⟩,.int .i64 3] 92)).alloc (.cells #[.int .i64 9,.string ⟨#[60]⟩,.int .i64 0,.slice (some ⟨W2.heap.size,0,none⟩) 2 2,.slice none 0 0,.slice none 0 0] 64):=⟨_,rfl⟩;have Wp:W3.heap.size=W2.heap.size+2:=by rw[hW3];simp
 have Yi:W3.heap[D1]?=some (.cells #[.int .i64 4,.string ⟨#[115]⟩,.int .i64 0,.int .i64 1,.string ⟨#[]⟩,.int .i64 3] 92 (0,0)):=by
  rw[hW3,hD1];simp only[af,World.size_alloc]
  repeat(first|rw[if_pos trivial]|rw[if_pos (by omega)]|rw[if_neg (by omega)])
 have UK:W3.heap[D2]?=some (.cells #[.int .i64 9,.string ⟨#[60]⟩,.int .i64 0,.slice (some ⟨W2.heap.size,0,none⟩) 2 2,.slice none 0 0,.slice none 0 0] 64 (0,0)):=by
  rw[hW3,hD2];simp only[af,World.size_alloc]
  repeat(first|rw[if_pos trivial]|rw[if_pos (by omega)]|rw[if_neg (by omega)])
 have GX:Below W2.heap.size W2 W3:=by rw[hW3];exact(((Below.refl _ _).alloc (by simp) _).alloc (by simp<;>omega) _)
 rw[<-hD1] at UK;have VW:D1<W3.heap.size/\D2<W3.heap.size:=by omega
 obtain⟨E1,hE1⟩:∃E1,E1=W3.heap.size:=⟨_,rfl⟩;obtain⟨E2,hE2⟩:∃E2,E2=W3.heap.size+1:=⟨_,rfl⟩;obtain⟨E3,VD⟩:∃E3,E3=W3.heap.size+1+1:=⟨_,rfl⟩;obtain⟨W4,wU⟩:∃W4,W4=((W3.alloc (.cells #[.string ⟨#[108]⟩,.int .i64 1,.string ⟨#[115]⟩,.int .i64 2] 94)).alloc (.cells #[.int .i64 3,.string ⟨#[]⟩,.int .i64 0,.slice (some ⟨C1,0,none⟩) 2 2,.slice none 0 0,.slice none 0 0,.int .i64 9,.string ⟨#[60]⟩,.int .i64 0,.slice (some ⟨D1,0,none⟩) 2 2,.slice none 0 0,.slice none 0 0] 64)).alloc (.cells #[.string ⟨#[103,111,110,101]⟩,.bool true,.int .i64 0,.slice (some ⟨W3.heap.size,0,none⟩) 2 2,.int .i64 13,.string ⟨#[]⟩,.int .i64 0,.slice none 0 0,.slice none 0 0,.slice (some ⟨W3.heap.size+1,0,none⟩) 2 2] 66):=⟨_,rfl⟩;have Wq:W4.heap.size=W3.heap.size+3:=by rw[wU];simp
 have Yj:W4.heap[E1]?=some (.cells #[.string ⟨#[108]⟩,.int .i64 1,.string ⟨#[115]⟩,.int .i64 2] 94 (0,0)):=by
  rw[wU,hE1];simp only[af,World.size_alloc]
  repeat(first|rw[if_pos trivial]|rw[if_pos (by omega)]|rw[if_neg (by omega)])
 have Yk:W4.heap[E2]?=some (.cells #[.int .i64 3,.string ⟨#[]⟩,.int .i64 0,.slice (some ⟨C1,0,none⟩) 2 2,.slice none 0 0,.slice none 0 0,.int .i64 9,.string ⟨#[60]⟩,.int .i64 0,.slice (some ⟨D1,0,none⟩) 2 2,.slice none 0 0,.slice none 0 0] 64 (0,0)):=by
  rw[wU,hE2];simp only[af,World.size_alloc]
  repeat(first|rw[if_pos trivial]|rw[if_pos (by omega)]|rw[if_neg (by omega)])
 have Ww:W4.heap[E3]?=some (.cells #[.string ⟨#[103,111,110,101]⟩,.bool true,.int .i64 0,.slice (some ⟨W3.heap.size,0,none⟩) 2 2,.int .i64 13,.string ⟨#[]⟩,.int .i64 0,.slice none 0 0,.slice none 0 0,.slice (some ⟨W3.heap.size+1,0,none⟩) 2 2] 66 (0,0)):=by
  rw[wU,VD];simp only[af,World.size_alloc]
  repeat(first|rw[if_pos trivial]|rw[if_pos (by omega)]|rw[if_neg (by omega)])
 have KP:Below W3.heap.size W3 W4:=by rw[wU];exact((((Below.refl _ _).alloc (by simp) _).alloc (by simp<;>omega) _).alloc (by simp<;>omega) _)
 rw[<-hE2,<-hE1] at Ww;have VX:E1<W4.heap.size/\E2<W4.heap.size/\E3<W4.heap.size:=by omega
 have DF:Below W1.heap.size W1 W4:=(hbW2.trans (GX.mono hbW2.size)).trans (KP.mono (Nat.le_trans hbW2.size GX.size));have QF:Below W2.heap.size W2 W4:=GX.trans (KP.mono GX.size);have Oa:Below w.heap.size w W4:=(hb0.trans (hbW1.mono hb0.size)).trans (DF.mono (Nat.le_trans hb0.size hbW1.size));have hr4:W4.heap[BR]?=some (.cells #[.slice none 0 0,.slice none 0 0,.slice none 0 0,.slice none 0 0,.slice none 0 0] 28 (0,0)):=(DF.block BR (by omega)).trans ((hbW1.block BR hl0).trans k0);have Yu:=(DF.block A1 (by omega)).trans kA1;have Yv:=(DF.block A2 (by omega)).trans kA2;have Yw:=(DF.block A3 (by omega)).trans kA3;have Yx:=(DF.block A4 (by omega)).trans Wu;have Yy:=(QF.block C1 (by omega)).trans Yh;have Z7:=(QF.block C2 (by omega)).trans UJ;have Yz:=(KP.block D1 (by omega)).trans Yi;have Z8:=(KP.block D2 (by omega)).trans UK;have HF:Hid (∀W,aa.Mod (fun k=>k=BR) W4 W->dD W (·<W.heap.size) dM ⟨⟨some ⟨A1,0,none⟩,A1,0,1⟩,⟨some ⟨A2,0,none⟩,A2,0,1⟩,⟨none,0,0,0⟩,⟨none,0,0,0⟩,⟨some ⟨A3,0,none⟩,A3,0,1⟩⟩/\au W (·<W.heap.size) ([l6].map bq.toD) [.string ⟨#[103,111,110,101]⟩,.bool true,.int .i64 0,.slice (some ⟨E1,0,none⟩) 2 2,.int .i64 13,.string ⟨#[]⟩,.int .i64 0,.slice none 0 0,.slice none 0 0,.slice (some ⟨E2,0,none⟩) 2 2]):=Lh (fun W hM=>by
  have hsz:=hM.size;have hst:∀b:Bs,b.length<=4->(⟨b.toArray⟩:ByteArray).size<=maxLen:=fun b hb=>by rw[aZ];unfold maxLen;omega
  have hi:∀n:Int,0<=n->n<=13->(Lit.int .i64 n).wf=true:=fun n h1 h2=>ku.wf (by unfold ku;omega);have Z9:=av Yu hM (by omega);have nA2:=av Yv hM (by omega);have nA3:=av Yw hM (by omega);have nC1:=av Yy hM (by omega);have nD1:=av Yz hM (by omega);have nE1:=av Yj hM (by omega);have nE2:=av Yk hM (by omega);have dI:∀n:Int,0<=n->n<=13->bg W (·<W.heap.size) (.int .i64 n) [.int .i64 n]:=fun n h1 h2=>by rw[bg];exact⟨rfl,hi n h1 h2⟩
  have dS:∀b:Bs,b.length<=4->bg W (·<W.heap.size) (.str ⟨b.toArray⟩) [.string ⟨b.toArray⟩]:=fun b hb=>by rw[bg];exact⟨rfl,hst b hb⟩
  have dN:bg W (·<W.heap.size) (.sl []) [.slice none 0 0]:=bg.cO.2 ⟨⟨none,0,0,0⟩,rfl,aj.nil (Nat.zero_le _) _ _ _⟩;have lt:∀k,k<W4.heap.size->k<W.heap.size:=fun k hk=>by omega
  have s1:aj W (·<W.heap.size) (dM.slots.map ma.toD) ⟨some ⟨A1,0,none⟩,A1,0,1⟩:=aj.lit Z9 (au.gW (x:=ma.toD ⟨[109,111,110,49],0,0⟩) (by rw[ma.toD,bg];exact au.ib (dS _ (by decide)) (au.ib (dI 0 (by decide) (by decide)) (au.ib (dI 0 (by decide) (by decide)) rfl)))) (lt _ (by omega)) (by decide) (by decide);have s2:aj W (·<W.heap.size) (dM.ah.map qi.toD) ⟨some ⟨A2,0,none⟩,A2,0,1⟩:=aj.lit nA2 (au.gW (x:=qi.toD ⟨[114],0,0,[]⟩) (by rw[qi.toD,bg];exact au.ib (dS _ (by decide)) (au.ib (dI 0 (by decide) (by decide)) (au.ib (dI 0 (by decide) (by decide)) (au.ib dN rfl))))) (lt _ (by omega)) (by decide) (by decide);have s3:aj W (·<W.heap.size) (dM.lessons.map qx.toD) ⟨some ⟨A3,0,none⟩,A3,0,1⟩:=aj.lit nA3 (au.gW (x:=qx.toD ⟨[109,97,116,104],[],[]⟩) (by rw[qx.toD,bg];exact au.ib (dS _ (by decide)) (au.ib dN (au.ib dN rfl)))) (lt _ (by omega)) (by decide) (by decide);have dT:∀(k:Int) (b:Bs) (n:Int),0<=k->k<=13->b.length<=4->0<=n->n<=13->bg W (·<W.heap.size) (bH.toD ⟨k,b,n⟩) [.int .i64 k,.string ⟨b.toArray⟩,.int .i64 n]:=fun k b n h1 h2 h3 h4 h5=>by rw[bH.toD,bg];exact au.ib (dI k h1 h2) (au.ib (dS b h3) (au.ib (dI n h4 h5) rfl))
  have t1:aj W (·<W.heap.size) ([(⟨2,[108],0⟩:bH),⟨2,[115],0⟩].map bH.toD) ⟨some ⟨C1,0,none⟩,C1,0,2⟩:=aj.lit nC1 (au.ib (dT 2 [108] 0 (by decide) (by decide) (by decide) (by decide) (by decide)) (au.gW (dT 2 [115] 0 (by decide) (by decide) (by decide) (by decide) (by decide)))) (lt _ (by omega)) (by decide) (by decide);have t2:aj W (·<W.heap.size) ([(⟨4,[115],0⟩:bH),⟨1,[],3⟩].map bH.toD) ⟨some ⟨D1,0,none⟩,D1,0,2⟩:=aj.lit nD1 (au.ib (dT 4 [115] 0 (by decide) (by decide) (by decide) (by decide) (by decide)) (au.gW (dT 1 [] 3 (by decide) (by decide) (by decide) (by decide) (by decide)))) (lt _ (by omega)) (by decide) (by decide);have dB:∀(b:Bs) (n:Int),b.length<=4->0<=n->n<=13->bg W (·<W.heap.size) (aD.toD ⟨b,n⟩) [.string ⟨b.toArray⟩,.int .i64 n]:=fun b n h3 h4 h5=>by rw[aD.toD,bg];exact au.ib (dS b h3) (au.ib (dI n h4 h5) rfl)
  have b1:aj W (·<W.heap.size) ([(⟨[108],1⟩:aD),⟨[115],2⟩].map aD.toD) ⟨some ⟨E1,0,none⟩,E1,0,2⟩:=aj.lit nE1 (au.ib (dB [108] 1 (by decide) (by decide) (by decide)) (au.gW (dB [115] 2 (by decide) (by decide) (by decide)))) (lt _ (by omega)) (by decide) (by decide);have nl:∀(xs:List D),xs=[]->aj W (·<W.heap.size) xs ⟨none,0,0,0⟩:=fun xs h=>by subst h;exact aj.nil (Nat.zero_le _) _ _ _
  have i7:∀n:Int,0<=n->n<=13->ku n:=fun n h1 h2=>by unfold ku;omega
  have f3:bg W (·<W.heap.size) (ae.mk 3 [] 0 [⟨2,[108],0⟩,⟨2,[115],0⟩] [] []).toD [.int .i64 3,.string ⟨#[]⟩,.int .i64 0,.slice (some ⟨C1,0,none⟩) 2 2,.slice none 0 0,.slice none 0 0]:=aB.iff.2 ⟨⟨⟨some ⟨C1,0,none⟩,C1,0,2⟩,⟨none,0,0,0⟩,⟨none,0,0,0⟩⟩,rfl,⟨i7 _ (by decide) (by decide),by decide,i7 _ (by decide) (by decide),t1,nl _ rfl,nl _ rfl⟩⟩;have f9:bg W (·<W.heap.size) (ae.mk 9 [60] 0 [⟨4,[115],0⟩,⟨1,[],3⟩] [] []).toD [.int .i64 9,.string ⟨#[60]⟩,.int .i64 0,.slice (some ⟨D1,0,none⟩) 2 2,.slice none 0 0,.slice none 0 0]:=aB.iff.2 ⟨⟨⟨some ⟨D1,0,none⟩,D1,0,2⟩,⟨none,0,0,0⟩,⟨none,0,0,0⟩⟩,rfl,⟨i7 _ (by decide) (by decide),by decide,i7 _ (by decide) (by decide),t2,nl _ rfl,nl _ rfl⟩⟩;have fl:aj W (·<W.heap.size) ([(ae.mk 3 [] 0 [⟨2,[108],0⟩,⟨2,[115],0⟩] [] []),.mk 9 [60] 0 [⟨4,[115],0⟩,⟨1,[],3⟩] [] []].map ae.toD) ⟨some ⟨E2,0,none⟩,E2,0,2⟩:=aj.lit nE2 (au.ib f3 (au.gW f9)) (lt _ (by omega)) (by decide) (by decide);refine⟨⟨s1,s2,nl _ rfl,nl _ rfl,s3⟩,au.gW (gV.iff.2 ⟨⟨⟨some ⟨E1,0,none⟩,E1,0,2⟩,⟨⟨none,0,0,0⟩,⟨none,0,0,0⟩,⟨some ⟨E2,0,none⟩,E2,0,2⟩⟩⟩,rfl,⟨by decide,i7 _ (by decide) (by decide),b1,⟨i7 _ (by decide) (by decide),by decide,i7 _ (by decide) (by decide),nl _ rfl,nl _ rfl,fl⟩⟩⟩)⟩)
 have HC:Hid (∀W,aa.Mod (fun k=>k=BR) W4 W->W.cell? ⟨A4,0,none⟩=some (.slice (some ⟨A1,0,none⟩) 1 1)/\W.cell? ⟨A4,1,none⟩=some (.slice (some ⟨A2,0,none⟩) 1 1)/\W.cell? ⟨A4,2,none⟩=some (.slice none 0 0)/\W.cell? ⟨A4,3,none⟩=some (.slice none 0 0)/\W.cell? ⟨A4,4,none⟩=some (.slice (some ⟨A3,0,none⟩) 1 1)/\W.cell? ⟨E3,0,none⟩=some (.string ⟨#[103,111,110,101]⟩)/\W.cell? ⟨E3,1,none⟩=some (.bool true)/\W.cell? ⟨E3,2,none⟩=some (.int .i64 0)/\W.cell? ⟨E3,3,none⟩=some (.slice (some ⟨E1,0,none⟩) 2 2)/\W.cell? ⟨E3,4,none⟩=some (.int .i64 13)/\W.cell? ⟨E3,5,none⟩=some (.string ⟨#[]⟩)/\W.cell? ⟨E3,6,none⟩=some (.int .i64 0)/\W.cell? ⟨E3,7,none⟩=some (.slice none 0 0)/\W.cell? ⟨E3,8,none⟩=some (.slice none 0 0)/\W.cell? ⟨E3,9,none⟩=some (.slice (some ⟨E2,0,none⟩) 2 2)):=Lh (fun W hM=>by
  have h1:=av Yx hM (by omega);have h2:=av Ww hM (by omega);exact⟨cH h1 rfl,cH h1 rfl,cH h1 rfl,cH h1 rfl,cH h1 rfl,cH h2 rfl,cH h2 rfl,cH h2 rfl,cH h2 rfl,cH h2 rfl,cH h2 rfl,cH h2 rfl,cH h2 rfl,cH h2 rfl,cH h2 rfl⟩)
 have FIN:Hid (∀(R:Nat) (W:World),aa.Mod (fun k=>k=BR) W4 W->W4.heap.size<=R->W.heap[R]?=some (.cells #[.string ⟨#[103,111,110,101]⟩,.bool true,.int .i64 0,.slice (some ⟨E1,0,none⟩) 2 2,.int .i64 13,.string ⟨#[]⟩,.int .i64 0,.slice none 0 0,.slice none 0 0,.slice (some ⟨E2,0,none⟩) 2 2] 66 (0,0))->∃(x:bS) (z:aK),Ending.returned (.tuple #[.agg #[.slice (some ⟨A1,0,none⟩) 1 1,.slice (some ⟨A2,0,none⟩) 1 1,.slice none 0 0,.slice none 0 0,.slice (some ⟨A3,0,none⟩) 1 1],.slice (some ⟨R,0,none⟩) 1 1])=.returned (.tuple #[.agg (x.cells dM).toArray,.slice z.a 1 z.cap])/\dD W (·<W.heap.size) dM x/\aj W (·<W.heap.size) ([l6].map bq.toD) z/\Below w.heap.size w W):=Lh (fun R W hM hR hh=>⟨⟨⟨some ⟨A1,0,none⟩,A1,0,1⟩,⟨some ⟨A2,0,none⟩,A2,0,1⟩,⟨none,0,0,0⟩,⟨none,0,0,0⟩,⟨some ⟨A3,0,none⟩,A3,0,1⟩⟩,⟨some ⟨R,0,none⟩,R,0,1⟩,rfl,(HF.out W hM).1,aj.lit hh (HF.out W hM).2 (gS hh).1 (by decide) (by decide),Oa.trans (hM.below Oa.size (fun k hk=>by omega))⟩);have Df:=Lh (aI Oa (aI hr4 (show w.heap.size<=BR by omega)));have q3:∀i v,(#[.int .i64 3,.string ⟨#[]⟩,.int .i64 0,.slice (some ⟨C1,0,none⟩) 2 2,.slice none 0 0,.slice none 0 0]:Array Value)[i]?=some v->W3.cell? ⟨C2,i,none⟩=some v:=fun i v h=>cH ((GX.block C2 (by omega)).trans UJ) h;have q9:∀i v,(#[.int .i64 9,.string ⟨#[60]⟩,.int .i64 0,.slice (some ⟨D1,0,none⟩) 2 2,.slice none 0 0,.slice none 0 0]:Array Value)[i]?=some v->W3.cell? ⟨D2,i,none⟩=some v:=fun i v h=>cH UK h;have c0:=q3 0 _ rfl;have c1:=q3 1 _ rfl;have c2:=q3 2 _ rfl;have c3:=q3 3 _ rfl;have c4:=q3 4 _ rfl;have c5:=q3 5 _ rfl;have d0:=q9 0 _ rfl;have d1:=q9 1 _ rfl;have d2:=q9 2 _ rfl;have d3:=q9 3 _ rfl;have d4:=q9 4 _ rfl;have d5:=q9 5 _ rfl;have lC2:C2<W3.heap.size:=by omega
 have lD2:D2<W3.heap.size:=by omega
 clear q3 q9 DF QF Oa hr4 Yu Yv Yw Yx Yy Z7 Yz Z8 kA1 kA2 kA3 Wu Yh UJ Yi UK Yj Yk Ww hb0 k0 hl0 hbW1 hbW2 GX KP VU VV VW VX Wn Wo Wp Wq;have HW:=Lh (aI hW0 (aI hW1 (aI hW2 (aI hW3 wU))));have Y1:=Lh KH;have Nu:=Lh (aI VA (aI hA3 (aI hA2 hA1)));have HL2:=Lh (aI hC2 Uy);have Xi:=Lh (aI hD2 hD1);have U7:=Lh (aI VD (aI hE2 hE1));clear hW0 hW1 hW2 hW3 wU KH hA1 hA2 hA3 VA Uy hC2 hD1 hD2 hE1 hE2 VD;go_enter Tryz.func20,Tryz.ntmps20;go_upto_region 1 with fail
 rw[<-HW.out.1,<-Y1.out];go_upto_region 2 with fail
 rw[<-HW.out.2.1,<-Nu.out.1,<-Nu.out.2.1,<-Nu.out.2.2.1,<-Nu.out.2.2.2];go_upto_region 3 with fail
 rw[<-HW.out.2.2.1,<-HL2.out.1,<-HL2.out.2];go_upto_region 4 with fail
 rw[<-HW.out.2.2.2.1,<-Xi.out.1,<-Xi.out.2];go_upto_region 5 with fail
 rw[<-HW.out.2.2.2.2,<-U7.out.1,<-U7.out.2.1,<-U7.out.2.2];refine bB 4 (S:=fun W=>aa.Mod (fun k=>k=BR) W4 W) (by kernel_rfl) (aa.Mod.refl _ _).drew (fun hHeld=>?_);refine aV (i:=0) rfl hHeld HC ?_;refine aV (i:=1) rfl hHeld HC ?_;refine az (rs:=[2,3]) (by kernel_rfl) (by simp) ?_;refine aY (i:=2) rfl (fun K hK=>?_) (aY (i:=3) rfl (fun K hK=>?_) aS)
 ·go_simp;obtain⟨W5,oC⟩:∃W5,W5=W4.alloc (.cells #[.string ⟨#[103,111,110,101]⟩,.bool true,.int .i64 0,.slice (some ⟨E1,0,none⟩) 2 2,.int .i64 13,.string ⟨#[]⟩,.int .i64 0,.slice none 0 0,.slice none 0 0,.slice (some ⟨E2,0,none⟩) 2 2] 66):=⟨_,rfl⟩;rw[<-oC];have Xj:=Lh (show aa.Mod (fun k=>k=BR) W4 W5 by rw[oC];exact(aa.Mod.refl _ _).alloc _);have YX:=Lh (show W5.heap[W4.heap.size]?=some (.cells #[.string ⟨#[103,111,110,101]⟩,.bool true,.int .i64 0,.slice (some ⟨E1,0,none⟩) 2 2,.int .i64 13,.string ⟨#[]⟩,.int .i64 0,.slice none 0 0,.slice none 0 0,.slice (some ⟨E2,0,none⟩) 2 2] 66 (0,0)) by rw[oC,af,if_pos rfl]);have r5:W5.heap[BR]?=some (.cells #[.slice none 0 0,.slice none 0 0,.slice none 0 0,.slice none 0 0,.slice none 0 0] 28 (0,0)):=by rw[oC,af,if_neg (by have:=(gS Df.out.2.1).1;omega)];exact Df.out.2.1
  clear oC;refine hK.out _ _ (Xj.out.drew) fun hHeld=>?_;clear hK K
  try simp only[Act.put,jZ,j3,j4]
  have x0:W5.cell? ⟨BR,0,none⟩=some (.slice none 0 0):=cH r5 rfl;have x1:W5.cell? ⟨BR,1,none⟩=some (.slice none 0 0):=cH r5 rfl;have x2:W5.cell? ⟨BR,2,none⟩=some (.slice none 0 0):=cH r5 rfl;have x3:W5.cell? ⟨BR,3,none⟩=some (.slice none 0 0):=cH r5 rfl;have x4:W5.cell? ⟨BR,4,none⟩=some (.slice none 0 0):=cH r5 rfl;have f0:W5.frozen? ⟨BR,0,none⟩=false:=fH r5;have f1:W5.frozen? ⟨BR,1,none⟩=false:=fH r5;have f2:W5.frozen? ⟨BR,2,none⟩=false:=fH r5;have f3:W5.frozen? ⟨BR,3,none⟩=false:=fH r5;have f4:W5.frozen? ⟨BR,4,none⟩=false:=fH r5;have hlr:BR<W5.heap.size:=(gS r5).1;refine az (rs:=[3]) (by kernel_rfl) (by simp) ?_;refine aY rfl (fun K hK=>?_) aS;have Jr:=Lh (aI (yz r5 (.slice (some ⟨A1,0,none⟩) 1 1) (.slice (some ⟨A2,0,none⟩) 1 1) (.slice none 0 0) (.slice none 0 0) (.slice (some ⟨A3,0,none⟩) 1 1)) (BZ W5 BR 0 (.slice (some ⟨A1,0,none⟩) 1 1) (.slice (some ⟨A2,0,none⟩) 1 1) (.slice none 0 0) (.slice none 0 0) (.slice (some ⟨A3,0,none⟩) 1 1)));unfold Ii at Jr;simp only[Nat.zero_add] at Jr;clear r5;go_simp;clear x0 x1 x2 x3 x4 f0 f1 f2 f3 f4 hlr;generalize ((((W5.setCell _ _).setCell _ _).setCell _ _).setCell _ _).setCell _ _=W6 at Jr ⊢;have Pk:=Lh (Xj.out.trans Jr.out.2 (fun _ _ h=>h));have YY:=Lh (av YX.out Jr.out.2 (by have:=(gS Df.out.2.1).1;omega));have r6:=Jr.out.1;refine hK.out _ _ (Pk.out.drew) fun hHeld=>?_;clear hK K
  try simp only[Act.put,jZ,j3,j4]
  refine az (rs:=[4]) (by kernel_rfl) (by simp) ?_;refine eG rfl (by kernel_rfl) (fun K hK=>?_) aS;go_simp;refine hK.out _ _ ?_;clear hK K
  try simp only[Act.put,jZ,j3,j4]
  refine eT (by kernel_rfl) ?_ _;have y0:W6.cell? ⟨BR,0,none⟩=some (.slice (some ⟨A1,0,none⟩) 1 1):=cH r6 rfl;have y1:W6.cell? ⟨BR,1,none⟩=some (.slice (some ⟨A2,0,none⟩) 1 1):=cH r6 rfl;have y2:W6.cell? ⟨BR,2,none⟩=some (.slice none 0 0):=cH r6 rfl;have y3:W6.cell? ⟨BR,3,none⟩=some (.slice none 0 0):=cH r6 rfl;have y4:W6.cell? ⟨BR,4,none⟩=some (.slice (some ⟨A3,0,none⟩) 1 1):=cH r6 rfl;go_wp2_with fail;refine bodyPost_ret (v:=.tuple #[.agg #[.slice (some ⟨A1,0,none⟩) 1 1,.slice (some ⟨A2,0,none⟩) 1 1,.slice none 0 0,.slice none 0 0,.slice (some ⟨A3,0,none⟩) 1 1],.slice (some ⟨W4.heap.size,0,none⟩) 1 1]) (by simp[results,Tryz.results20,go_sem,y0,y1,y2,y3,y4]) rfl ?_;exact FIN.out _ _ (by first|exact Pk.out|exact Pk.out.drew|exact Pk.out.drew.drew) (Nat.le_refl _) YY.out
 ·have r5:W4.heap[BR]?=some (.cells #[.slice none 0 0,.slice none 0 0,.slice none 0 0,.slice none 0 0,.slice none 0 0] 28 (0,0)):=Df.out.2.1;have x0:W4.cell? ⟨BR,0,none⟩=some (.slice none 0 0):=cH r5 rfl;have x1:W4.cell? ⟨BR,1,none⟩=some (.slice none 0 0):=cH r5 rfl;have x2:W4.cell? ⟨BR,2,none⟩=some (.slice none 0 0):=cH r5 rfl;have x3:W4.cell? ⟨BR,3,none⟩=some (.slice none 0 0):=cH r5 rfl;have x4:W4.cell? ⟨BR,4,none⟩=some (.slice none 0 0):=cH r5 rfl;have f0:W4.frozen? ⟨BR,0,none⟩=false:=fH r5;have f1:W4.frozen? ⟨BR,1,none⟩=false:=fH r5;have f2:W4.frozen? ⟨BR,2,none⟩=false:=fH r5;have f3:W4.frozen? ⟨BR,3,none⟩=false:=fH r5;have f4:W4.frozen? ⟨BR,4,none⟩=false:=fH r5;have hlr:BR<W4.heap.size:=(gS r5).1;have Jr:=Lh (aI (yz r5 (.slice (some ⟨A1,0,none⟩) 1 1) (.slice (some ⟨A2,0,none⟩) 1 1) (.slice none 0 0) (.slice none 0 0) (.slice (some ⟨A3,0,none⟩) 1 1)) (BZ W4 BR 0 (.slice (some ⟨A1,0,none⟩) 1 1) (.slice (some ⟨A2,0,none⟩) 1 1) (.slice none 0 0) (.slice none 0 0) (.slice (some ⟨A3,0,none⟩) 1 1)));unfold Ii at Jr;simp only[Nat.zero_add] at Jr;clear r5;go_simp;clear x0 x1 x2 x3 x4 f0 f1 f2 f3 f4 hlr;generalize ((((W4.setCell _ _).setCell _ _).setCell _ _).setCell _ _).setCell _ _=W6 at Jr ⊢;have Pk:=Lh Jr.out.2;have r6:=Jr.out.1;refine hK.out _ _ (Pk.out.drew) fun hHeld=>?_;clear hK K
  try simp only[Act.put,jZ,j3,j4]
  refine az (rs:=[2]) (by kernel_rfl) (by simp) ?_;refine aY rfl (fun K hK=>?_) aS;go_simp;obtain⟨W5,oC⟩:∃W5,W5=W6.alloc (.cells #[.string ⟨#[103,111,110,101]⟩,.bool true,.int .i64 0,.slice (some ⟨E1,0,none⟩) 2 2,.int .i64 13,.string ⟨#[]⟩,.int .i64 0,.slice none 0 0,.slice none 0 0,.slice (some ⟨E2,0,none⟩) 2 2] 66):=⟨_,rfl⟩;rw[<-oC];have Ug:=Lh (show aa.Mod (fun k=>k=BR) W4 W5 by rw[oC];exact Pk.out.alloc _);have YZ:=Lh (show W5.heap[W6.heap.size]?=some (.cells #[.string ⟨#[103,111,110,101]⟩,.bool true,.int .i64 0,.slice (some ⟨E1,0,none⟩) 2 2,.int .i64 13,.string ⟨#[]⟩,.int .i64 0,.slice none 0 0,.slice none 0 0,.slice (some ⟨E2,0,none⟩) 2 2] 66 (0,0)) by rw[oC,af,if_pos rfl]);have r7:W5.heap[BR]?=some (.cells #[.slice (some ⟨A1,0,none⟩) 1 1,.slice (some ⟨A2,0,none⟩) 1 1,.slice none 0 0,.slice none 0 0,.slice (some ⟨A3,0,none⟩) 1 1] 28 (0,0)):=by rw[oC,af,if_neg (by have:=(gS r6).1;omega)];exact r6
  clear oC r6;have r6:=r7;clear r7;refine hK.out _ _ (Ug.out.drew) fun hHeld=>?_;clear hK K
  try simp only[Act.put,jZ,j3,j4]
  refine az (rs:=[4]) (by kernel_rfl) (by simp) ?_;refine eG rfl (by kernel_rfl) (fun K hK=>?_) aS;go_simp;refine hK.out _ _ ?_;clear hK K
  try simp only[Act.put,jZ,j3,j4]
  refine eT (by kernel_rfl) ?_ _;have y0:W5.cell? ⟨BR,0,none⟩=some (.slice (some ⟨A1,0,none⟩) 1 1):=cH r6 rfl;have y1:W5.cell? ⟨BR,1,none⟩=some (.slice (some ⟨A2,0,none⟩) 1 1):=cH r6 rfl;have y2:W5.cell? ⟨BR,2,none⟩=some (.slice none 0 0):=cH r6 rfl;have y3:W5.cell? ⟨BR,3,none⟩=some (.slice none 0 0):=cH r6 rfl;have y4:W5.cell? ⟨BR,4,none⟩=some (.slice (some ⟨A3,0,none⟩) 1 1):=cH r6 rfl;go_wp2_with fail;refine bodyPost_ret (v:=.tuple #[.agg #[.slice (some ⟨A1,0,none⟩) 1 1,.slice (some ⟨A2,0,none⟩) 1 1,.slice none 0 0,.slice none 0 0,.slice (some ⟨A3,0,none⟩) 1 1],.slice (some ⟨W6.heap.size,0,none⟩) 1 1]) (by simp[results,Tryz.results20,go_sem,y0,y1,y2,y3,y4]) rfl ?_;exact FIN.out _ _ (by first|exact Ug.out|exact Ug.out.drew|exact Ug.out.drew.drew) Pk.out.size YZ.out
end Go.Proofs.YtncnnbmeacpboaaGreatDoor
namespace Go.aa
open Go.RowKit
variable {B lo hi n:Nat} {S F F0:Nat->Prop} {a b c w W:World} {x:D} {cs:List Value} {e:TypeId} {o:Oper} {K:Act->World->Prop} {Q:Exit->Act->World->Prop} {m:List (Bs×Bs)} {t:bH}
def pG:Bs:=[103,111,110,101,32,40,108,32,61,32,109,97,116,104,44,32,115,32,61,32,109,111,110,49,41,58,32,97,116,40,109,97,116,104,44,32,109,111,110,49,41,32,45,62,32,104,111,117,114,40,109,111,110,49,41,32,60,32,51]
def x8:Bs:=[104,97,114,100,32,103,111,110,101,58]
def Ra:Bs:=[116,104,101,115,101,32,99,97,110,39,116,32,98,101,32,116,111,103,101,116,104,101,114,58]
def Qu:Bs:=[116,104,97,116,32,105,115,32,97,108,108]
theorem O7:ko dM [l6] ⟨0,[0,0]⟩=(pG,0):=by decide+kernel
theorem M6:rQ dM [l6] [⟨0,[0,0]⟩]=([x8,32::32::pG],0):=by decide+kernel
theorem Rf:CX 1 3 dM [l6] [⟨0,[0,0]⟩] ⟨1,[[0]],[]⟩=([Ra,x8,32::32::pG,Qu],0):=by decide+kernel
theorem M5:ko dM [l6] ⟨0,[0,1]⟩=([],1):=by decide+kernel
theorem O8:CX 1 3 dM [l6] [⟨0,[0,0]⟩] ⟨1,[[1]],[]⟩=([],1):=by decide+kernel
def Ib:Tr:=.mk 0 0 0 []
def zf:gp:=⟨0,[0,0],Ib⟩
end Go.aa
namespace Go.Proofs.YtncnnbmeacpboaaGreatDoor
open Go.RowKit Go.aa
variable {B lo hi n:Nat} {S F F0:Nat->Prop} {a b c w W:World} {x:D} {cs:List Value} {e:TypeId} {o:Oper} {K:Act->World->Prop} {Q:Exit->Act->World->Prop} {m:List (Bs×Bs)} {t:bH}
theorem OD:bg W F Ib.toD [.int .i64 0,.int .i64 0,.int .i64 0,.slice none 0 0]:=by
 rw[Ib,Tr.toD,bg];have dI:bg W F (.int .i64 0) [.int .i64 0]:=by rw[bg];exact⟨rfl,by decide⟩
 have dN:bg W F (.sl []) [.slice none 0 0]:=bg.cO.2 ⟨⟨none,0,0,0⟩,rfl,aj.nil (Nat.zero_le _) _ _ _⟩;exact au.ib dI (au.ib dI (au.ib dI (au.gW dN)))
theorem nL:gQ dM:=by
 refine⟨⟨by decide,by decide,by decide,by decide,by decide⟩,fun sort=>?_,by decide,by decide,by decide,by decide⟩;unfold ai
 repeat' split
 all_goals decide
theorem nK:∀r∈[l6],gF r:=by
 intro r hr;rw[List.mem_singleton.1 hr];exact⟨by decide,by decide,by decide,⟨by decide,by unfold jo;decide+kernel⟩⟩
structure Qp (w W:World) (x:bS) (z:aK) (SB IB XB:Nat):Prop where
 box:W.heap[SB]?=some (.cells (x.cells dM).toArray 28 (0,0))
 Jy:dD W (·<W.heap.size) dM x
 Aj:aj W (·<W.heap.size) ([l6].map bq.toD) z
 ints:W.heap[IB]?=some (.cells #[.int .i64 0,.int .i64 0] 3 (0,0))
 inst:W.heap[XB]?=some (.cells #[.int .i64 0,.slice (some ⟨IB,0,none⟩) 2 2,.int .i64 0,.int .i64 0,.int .i64 0,.slice none 0 0] 35 (0,0))
 Vx:Below w.heap.size w W
 gs:GS W
theorem Qp.later{w W W':World}{x:bS}{z:aK}{SB IB XB:Nat}(h:Qp w W x z SB IB XB)(hb:Below W.heap.size W W'):Qp w W' x z SB IB XB:=
 ⟨(hb.block _ (gS h.box).1).trans h.box,h.Jy.later hb hb.size,h.Aj.later hb hb.size,(hb.block _ (gS h.ints).1).trans h.ints,(hb.block _ (gS h.inst).1).trans h.inst,h.Vx.trans (hb.mono h.Vx.size),h.gs.below hb⟩
theorem Lb{a b:Int}(ha:ku a)(hb:ku b)(h:W.heap[B]?=some (.cells #[.int .i64 a,.int .i64 b] 3 (0,0))):aj W (·<W.heap.size) (bD [a,b]) ⟨some ⟨B,0,none⟩,B,0,2⟩:=by
 have dI:∀n,ku n->bg W (·<W.heap.size) (.int .i64 n) [.int .i64 n]:=fun n hn=>by rw[bg];exact⟨rfl,hn.wf⟩
 exact aj.lit h (au.ib (dI _ ha) (au.gW (dI _ hb))) (gS h).1 (by simp) (by decide)
theorem Cz{C:Nat}{a:Int}(ha:ku a)(h:W.heap[B]?=some (.cells #[.int .i64 a] 3 (0,0)))(k:W.heap[C]?=some (.cells #[.slice (some ⟨B,0,none⟩) 1 1] 30 (0,0))):aj W (·<W.heap.size) (ja [[a]]) ⟨some ⟨C,0,none⟩,C,0,1⟩:=by
 have dI:bg W (·<W.heap.size) (.int .i64 a) [.int .i64 a]:=by rw[bg];exact⟨rfl,ha.wf⟩
 have s1:aj W (·<W.heap.size) (bD [a]) ⟨some ⟨B,0,none⟩,B,0,1⟩:=aj.lit h (au.gW dI) (gS h).1 (by simp) (by decide);exact aj.lit k (au.gW (bg.cO.2 ⟨_,rfl,s1⟩)) (gS k).1 (by simp[ja]) (by decide)
theorem K5:ku 0:=by unfold ku;omega
theorem TJ:ku 1:=by unfold ku;omega
theorem zz{b:Int}(hb:ku b)(h:W.heap[B]?=some (.cells #[.int .i64 0,.int .i64 b] 3 (0,0))):fU W (·<W.heap.size) ⟨0,[0,b],Ib⟩ ⟨⟨some ⟨B,0,none⟩,B,0,2⟩,0,0,0,none,0,0⟩:=
 ⟨K5,Lb K5 hb h,OD⟩
theorem Qp.xs{x:bS}{z:aK}{SB IB XB:Nat}(h:Qp w W x z SB IB XB):aj W (·<W.heap.size) ([zf].map gp.toD) ⟨some ⟨XB,0,none⟩,XB,0,1⟩:=by
 exact aj.lit h.inst (au.gW (fU.iff.2 ⟨_,rfl,zz K5 h.ints⟩)) (gS h.inst).1 (by decide) (by decide)
section
variable {w W:World} {x:bS} {z:aK} {SB IB XB:Nat} (hI:iL) (h:Qp w W x z SB IB XB)
include hI h
theorem Ow:Calls Tryz.prog 10 #[.agg (x.cells dM).toArray,.slice z.a 1 z.cap,.agg #[.int .i64 0,.slice (some ⟨IB,0,none⟩) 2 2,.int .i64 0,.int .i64 0,.int .i64 0,.slice none 0 0]] W fun e w'=>e=.returned (.tuple #[.string ⟨pG.toArray⟩,.int .i64 0])/\Below W.heap.size W w':=by
 have c:=vD dM x [l6] z zf ⟨⟨some ⟨IB,0,none⟩,IB,0,2⟩,0,0,0,none,0,0⟩ W hI h.Jy nL h.Aj (by decide) nK (zz K5 h.ints) (by decide) h.gs;rw[show ko dM [l6] zf.ins=(pG,0) from O7] at c;exact c
theorem Lu{B:Nat}(hB:W.heap[B]?=some (.cells #[.int .i64 0,.int .i64 1] 3 (0,0))):Calls Tryz.prog 10 #[.agg (x.cells dM).toArray,.slice z.a 1 z.cap,.agg #[.int .i64 0,.slice (some ⟨B,0,none⟩) 2 2,.int .i64 0,.int .i64 0,.int .i64 0,.slice none 0 0]] W fun e w'=>e=.returned (.tuple #[.string ⟨#[]⟩,.int .i64 1])/\Below W.heap.size W w':=by
 have c:=vD dM x [l6] z ⟨0,[0,1],Ib⟩ ⟨⟨some ⟨B,0,none⟩,B,0,2⟩,0,0,0,none,0,0⟩ W hI h.Jy nL h.Aj (by decide) nK (zz TJ hB) (by decide) h.gs;rw[show ko dM [l6] (gp.mk 0 [0,1] Ib).ins=([],1) from M5] at c;exact c
theorem Lv:Calls Tryz.prog 13 #[.agg (x.cells dM).toArray,.slice z.a 1 z.cap,.slice (some ⟨XB,0,none⟩) 1 1] W fun e w'=>∃v:aK,e=.returned (.tuple #[.slice v.a 2 v.cap,.int .i64 0])/\aj w' (·<w'.heap.size) ([x8,32::32::pG].map bM) v/\Below W.heap.size W w':=by
 have c:=G8 dM x [l6] z [zf] ⟨some ⟨XB,0,none⟩,XB,0,1⟩ W hI h.Jy nL h.Aj (by decide) nK h.xs (by decide) (by decide) h.gs;rw[show rQ dM [l6] ([zf].map gp.ins)=([x8,32::32::pG],0) from M6] at c;exact c.mono fun e w' ⟨v,h1,⟨y,h2,h3⟩,h4⟩=>⟨y,by rw[h1,h2];rfl,h3.mono (fun k hk=>hk.2),h4⟩
theorem Q3{B C:Nat}(hB:W.heap[B]?=some (.cells #[.int .i64 0] 3 (0,0)))(hC:W.heap[C]?=some (.cells #[.slice (some ⟨B,0,none⟩) 1 1] 30 (0,0))):Calls Tryz.prog 15 #[.agg (x.cells dM).toArray,.slice z.a 1 z.cap,.slice (some ⟨XB,0,none⟩) 1 1,.agg #[.int .i64 1,.slice (some ⟨C,0,none⟩) 1 1,.slice none 0 0]] W fun e w'=>∃v:aK,e=.returned (.tuple #[.slice v.a 4 v.cap,.int .i64 0])/\aj w' (·<w'.heap.size) ([Ra,x8,32::32::pG,Qu].map bM) v/\Below W.heap.size W w':=by
 have c:=F5 dM x [l6] z [zf] ⟨some ⟨XB,0,none⟩,XB,0,1⟩ ⟨1,[[0]],[]⟩ ⟨⟨some ⟨C,0,none⟩,C,0,1⟩,⟨none,0,0,0⟩⟩ W hI h.Jy nL h.Aj (by decide) nK h.xs (by decide) (by decide) (Cz K5 hB hC) (aj.nil (Nat.zero_le _) _ _ _) (by decide) (by decide) (by decide) (by decide) h.gs;rw[show CX 1 3 dM [l6] ([zf].map gp.ins) ⟨1,[[0]],[]⟩=([Ra,x8,32::32::pG,Qu],0) from Rf] at c;exact c.mono fun e w' ⟨v,h1,⟨y,h2,h3⟩,h4⟩=>⟨y,by rw[h1,h2];rfl,h3,h4⟩
theorem Ox{B C:Nat}(hB:W.heap[B]?=some (.cells #[.int .i64 1] 3 (0,0)))(hC:W.heap[C]?=some (.cells #[.slice (some ⟨B,0,none⟩) 1 1] 30 (0,0))):Calls Tryz.prog 15 #[.agg (x.cells dM).toArray,.slice z.a 1 z.cap,.slice (some ⟨XB,0,none⟩) 1 1,.agg #[.int .i64 1,.slice (some ⟨C,0,none⟩) 1 1,.slice none 0 0]] W fun e w'=>∃v,e=.returned (.tuple #[v,.int .i64 1])/\Below W.heap.size W w':=by
 have c:=F5 dM x [l6] z [zf] ⟨some ⟨XB,0,none⟩,XB,0,1⟩ ⟨1,[[1]],[]⟩ ⟨⟨some ⟨C,0,none⟩,C,0,1⟩,⟨none,0,0,0⟩⟩ W hI h.Jy nL h.Aj (by decide) nK h.xs (by decide) (by decide) (Cz TJ hB hC) (aj.nil (Nat.zero_le _) _ _ _) (by decide) (by decide) (by decide) (by decide) h.gs;rw[show CX 1 3 dM [l6] ([zf].map gp.ins) ⟨1,[[1]],[]⟩=([],1) from O8] at c;exact c.mono fun e w' ⟨v,h1,_,h4⟩=>⟨v,h1,h4⟩
end
end Go.Proofs.YtncnnbmeacpboaaGreatDoor
namespace Go.Proofs.YtncnnbmeacpboaaGreatDoor
open Go.RowKit Go.aa
attribute [local go_sem] Oper.semAt_some
variable {B lo hi n:Nat} {S F F0:Nat->Prop} {a b c w W:World} {x:D} {cs:List Value} {e:TypeId} {o:Oper} {K:Act->World->Prop} {Q:Exit->Act->World->Prop} {m:List (Bs×Bs)} {t:bH}
theorem DY(w:World)(hI:iL)(hg:GS w):Calls Tryz.prog 8 #[] w fun e w'=>e=.returned (.bool true)/\Below w.heap.size w w':=by
 have HI:=Lh hI;have HG:=Lh hg;clear hI hg;go_enter Tryz.func8,Tryz.ntmps8;go_wp2_with fail;refine(zg _).mono ?_;rintro e w1 ⟨x,z,rfl,h1,h2,b1⟩;have H1:=Lh (aI h1 (aI h2 b1));clear h1 h2 b1;go_upto_region 3 with fail
 obtain⟨SB,rO⟩:∃SB,SB=w1.heap.size:=⟨_,rfl⟩;obtain⟨IB,hIB⟩:∃IB,IB=w1.heap.size+1:=⟨_,rfl⟩;obtain⟨XB,RH⟩:∃XB,XB=w1.heap.size+1+1:=⟨_,rfl⟩;obtain⟨W3,hW3⟩:∃W3,W3=((w1.alloc (.cells #[.slice x.slots.a dM.slots.length x.slots.cap,.slice x.ah.a dM.ah.length x.ah.cap,.slice x.people.a dM.people.length x.people.cap,.slice x.groups.a dM.groups.length x.groups.cap,.slice x.lessons.a dM.lessons.length x.lessons.cap] 28)).alloc (.cells #[.int .i64 0,.int .i64 0] 3)).alloc (.cells #[.int .i64 0,.slice (some ⟨w1.heap.size+1,0,none⟩) 2 2,.int .i64 0,.int .i64 0,.int .i64 0,.slice none 0 0] 35):=⟨_,rfl⟩;have hb3:Below w1.heap.size w1 W3:=by rw[hW3];exact(((Below.refl _ _).alloc (Nat.le_refl _) _).alloc (by simp) _).alloc (by simp<;>omega) _
 have L3:Qp w W3 x z SB IB XB:=by
  refine⟨?_,H1.out.1.later hb3 hb3.size,H1.out.2.1.later hb3 hb3.size,?_,?_,H1.out.2.2.trans (hb3.mono H1.out.2.2.size),(HG.out.below H1.out.2.2).below hb3⟩
  ·rw[hW3,af,if_neg (by simp<;>omega),af,if_neg (by simp<;>omega),af,if_pos rO]
  ·rw[hW3,af,if_neg (by simp<;>omega),af,if_pos (by simp<;>omega)]
  ·rw[hW3,af,if_pos (by simp<;>omega),hIB]
 rw[<-hW3,<-RH,<-hIB,<-rO];have L3:=Lh L3;clear hb3 hW3 rO hIB RH H1
 try(generalize Value.tuple _=tt)
 have wR:Hid (∀W,Below W3.heap.size W3 W->W.cell? ⟨SB,0,none⟩=some (.slice x.slots.a dM.slots.length x.slots.cap)/\W.cell? ⟨SB,1,none⟩=some (.slice x.ah.a dM.ah.length x.ah.cap)/\W.cell? ⟨SB,2,none⟩=some (.slice x.people.a dM.people.length x.people.cap)/\W.cell? ⟨SB,3,none⟩=some (.slice x.groups.a dM.groups.length x.groups.cap)/\W.cell? ⟨SB,4,none⟩=some (.slice x.lessons.a dM.lessons.length x.lessons.cap)/\W.cell? ⟨XB,0,none⟩=some (.int .i64 0)/\W.cell? ⟨XB,1,none⟩=some (.slice (some ⟨IB,0,none⟩) 2 2)/\W.cell? ⟨XB,2,none⟩=some (.int .i64 0)/\W.cell? ⟨XB,3,none⟩=some (.int .i64 0)/\W.cell? ⟨XB,4,none⟩=some (.int .i64 0)/\W.cell? ⟨XB,5,none⟩=some (.slice none 0 0)):=Lh (fun W hB=>by
  have h:=L3.out.later hB;have h1:=h.box;have h2:=h.inst;exact⟨cH h1 rfl,cH h1 rfl,cH h1 rfl,cH h1 rfl,cH h1 rfl,cH h2 rfl,cH h2 rfl,cH h2 rfl,cH h2 rfl,cH h2 rfl,cH h2 rfl⟩)
 refine bB 10 (S:=fun W=>Below W3.heap.size W3 W) (by kernel_rfl) (Below.refl _ _).drew (fun hHeld=>?_);refine aV (i:=0) rfl hHeld wR ?_;refine aV (i:=1) rfl hHeld wR ?_;refine aV (i:=2) rfl hHeld wR ?_;refine aV (i:=3) rfl hHeld wR ?_;refine aV (i:=4) rfl hHeld wR ?_;refine az (rs:=[5]) (by kernel_rfl) (by simp) ?_;refine aY rfl (fun K hK=>?_) aS;go_simp;refine(Ow HI.out (L3.out.later hHeld)).mono ?_;rintro e w4 ⟨rfl,hb⟩;have B4:=Lh (hHeld.trans (hb.mono hHeld.size));clear hb;go_simp;refine hK.out _ _ (B4.out) fun hHeld=>?_;clear hK K
 try simp only[Act.put,jZ,j3,j4]
 refine aV (i:=6) rfl hHeld wR ?_;refine aV (i:=7) rfl hHeld wR ?_;refine aV (i:=8) rfl hHeld wR ?_;refine aV (i:=9) rfl hHeld wR ?_;refine az (rs:=[10]) (by kernel_rfl) (by simp) ?_;refine eG rfl (by kernel_rfl) (fun K hK=>?_) aS;go_simp;refine hK.out _ _ ?_;clear hK K
 try simp only[Act.put,jZ,j3,j4]
 refine eT (by kernel_rfl) ?_ _;have L4:=Lh (L3.out.later B4.out);clear hHeld wR B4 L3;have c0:w4.cell? ⟨SB,0,none⟩=some (.slice x.slots.a dM.slots.length x.slots.cap):=cH L4.out.box rfl;have c1:w4.cell? ⟨SB,1,none⟩=some (.slice x.ah.a dM.ah.length x.ah.cap):=cH L4.out.box rfl;have c2:w4.cell? ⟨SB,2,none⟩=some (.slice x.people.a dM.people.length x.people.cap):=cH L4.out.box rfl;have c3:w4.cell? ⟨SB,3,none⟩=some (.slice x.groups.a dM.groups.length x.groups.cap):=cH L4.out.box rfl;have c4:w4.cell? ⟨SB,4,none⟩=some (.slice x.lessons.a dM.lessons.length x.lessons.cap):=cH L4.out.box rfl;go_wp2_with fail;refine(Lv HI.out L4.out).mono ?_;rintro e w5 ⟨v,rfl,hv,hb⟩;have L5:=Lh (aI (L4.out.later hb) hv);clear hb hv c0 c1 c2 c3 c4 L4;have c0:w5.cell? ⟨SB,0,none⟩=some (.slice x.slots.a dM.slots.length x.slots.cap):=cH L5.out.1.box rfl;have c1:w5.cell? ⟨SB,1,none⟩=some (.slice x.ah.a dM.ah.length x.ah.cap):=cH L5.out.1.box rfl;have c2:w5.cell? ⟨SB,2,none⟩=some (.slice x.people.a dM.people.length x.people.cap):=cH L5.out.1.box rfl;have c3:w5.cell? ⟨SB,3,none⟩=some (.slice x.groups.a dM.groups.length x.groups.cap):=cH L5.out.1.box rfl;have c4:w5.cell? ⟨SB,4,none⟩=some (.slice x.lessons.a dM.lessons.length x.lessons.cap):=cH L5.out.1.box rfl;go_wp2_with fail;obtain⟨W6,Ah⟩:∃W6,W6=(w5.alloc (.cells #[.int .i64 0] 3)).alloc (.cells #[.slice (some ⟨w5.heap.size,0,none⟩) 1 1] 30):=⟨_,rfl⟩;have Uv:Below w5.heap.size w5 W6:=by rw[Ah];exact((Below.refl _ _).alloc (Nat.le_refl _) _).alloc (by simp) _
 have Yp:W6.heap[w5.heap.size]?=some (.cells #[.int .i64 0] 3 (0,0)):=by rw[Ah,af,if_neg (by simp),af,if_pos rfl]
 have YD:W6.heap[w5.heap.size+1]?=some (.cells #[.slice (some ⟨w5.heap.size,0,none⟩) 1 1] 30 (0,0)):=by rw[Ah,af,if_pos (by simp)]
 rw[<-Ah];refine(Q3 HI.out (L5.out.1.later Uv) Yp YD).mono ?_;rintro e w7 ⟨v2,rfl,hv,hb⟩;have Uu:=Uv.trans (hb.mono Uv.size);have L7:=Lh (aI (L5.out.1.later Uu) (aI (L5.out.2.later Uu Uu.size) hv));clear hb hv c0 c1 c2 c3 c4 L5 Uv Yp YD Ah Uu;have c0:w7.cell? ⟨SB,0,none⟩=some (.slice x.slots.a dM.slots.length x.slots.cap):=cH L7.out.1.box rfl;have c1:w7.cell? ⟨SB,1,none⟩=some (.slice x.ah.a dM.ah.length x.ah.cap):=cH L7.out.1.box rfl;have c2:w7.cell? ⟨SB,2,none⟩=some (.slice x.people.a dM.people.length x.people.cap):=cH L7.out.1.box rfl;have c3:w7.cell? ⟨SB,3,none⟩=some (.slice x.groups.a dM.groups.length x.groups.cap):=cH L7.out.1.box rfl;have c4:w7.cell? ⟨SB,4,none⟩=some (.slice x.lessons.a dM.lessons.length x.lessons.cap):=cH L7.out.1.box rfl;go_wp2_with fail;obtain⟨W8,Db⟩:∃W8,W8=w7.alloc (.cells #[.int .i64 0,.int .i64 1] 3):=⟨_,rfl⟩;have b8:Below w7.heap.size w7 W8:=by rw[Db];exact(Below.refl _ _).alloc (Nat.le_refl _) _
 have k8:W8.heap[w7.heap.size]?=some (.cells #[.int .i64 0,.int .i64 1] 3 (0,0)):=by rw[Db,af,if_pos rfl]
 rw[<-Db];refine(Lu HI.out (L7.out.1.later b8) k8).mono ?_;rintro e w9 ⟨rfl,hb⟩;have Rz:=b8.trans (hb.mono b8.size);have L9:=Lh (aI (L7.out.1.later Rz) (aI (L7.out.2.1.later Rz Rz.size) (L7.out.2.2.later Rz Rz.size)));clear hb c0 c1 c2 c3 c4 L7 b8 k8 Db Rz;have c0:w9.cell? ⟨SB,0,none⟩=some (.slice x.slots.a dM.slots.length x.slots.cap):=cH L9.out.1.box rfl;have c1:w9.cell? ⟨SB,1,none⟩=some (.slice x.ah.a dM.ah.length x.ah.cap):=cH L9.out.1.box rfl;have c2:w9.cell? ⟨SB,2,none⟩=some (.slice x.people.a dM.people.length x.people.cap):=cH L9.out.1.box rfl;have c3:w9.cell? ⟨SB,3,none⟩=some (.slice x.groups.a dM.groups.length x.groups.cap):=cH L9.out.1.box rfl;have c4:w9.cell? ⟨SB,4,none⟩=some (.slice x.lessons.a dM.lessons.length x.lessons.cap):=cH L9.out.1.box rfl;go_wp2_with fail;obtain⟨WA,SX⟩:∃WA,WA=(w9.alloc (.cells #[.int .i64 1] 3)).alloc (.cells #[.slice (some ⟨w9.heap.size,0,none⟩) 1 1] 30):=⟨_,rfl⟩;have Uw:Below w9.heap.size w9 WA:=by rw[SX];exact((Below.refl _ _).alloc (Nat.le_refl _) _).alloc (by simp) _
 have Yq:WA.heap[w9.heap.size]?=some (.cells #[.int .i64 1] 3 (0,0)):=by rw[SX,af,if_neg (by simp),af,if_pos rfl]
 have YE:WA.heap[w9.heap.size+1]?=some (.cells #[.slice (some ⟨w9.heap.size,0,none⟩) 1 1] 30 (0,0)):=by rw[SX,af,if_pos (by simp)]
 rw[<-SX];refine(Ox HI.out (L9.out.1.later Uw) Yq YE).mono ?_;rintro e wb ⟨v3,rfl,hb⟩;have RA:=Uw.trans (hb.mono Uw.size);have LB:=Lh (aI (L9.out.1.later RA) (aI (L9.out.2.1.later RA RA.size) (L9.out.2.2.later RA RA.size)));clear hb c0 c1 c2 c3 c4 L9 Uw Yq YE SX RA;go_upto_region 11 with fail
 obtain⟨va,vb,vo,vc⟩:=v;obtain⟨ua,ub,uo,uc⟩:=v2;obtain⟨n1,_,_,n4,_⟩:=LB.out.2.1.flat bV;obtain⟨m1,_,_,m4,_⟩:=LB.out.2.2.flat bV;have YP:=(n1 (by decide)).1;have YN:=(m1 (by decide)).1;have ln:=(n1 (by decide)).2;have lm:=(m1 (by decide)).2;dsimp only at YP YN n4 m4 ln lm;subst YP YN;have ek:Hid (∀W,Below wb.heap.size wb W->W.cell? ⟨vb,vo,none⟩=some (.string ⟨#[104,97,114,100,32,103,111,110,101,58]⟩)/\W.cell? ⟨vb,vo+1,none⟩=some (.string ⟨#[32,32,103,111,110,101,32,40,108,32,61,32,109,97,116,104,44,32,115,32,61,32,109,111,110,49,41,58,32,97,116,40,109,97,116,104,44,32,109,111,110,49,41,32,45,62,32,104,111,117,114,40,109,111,110,49,41,32,60,32,51]⟩)/\W.cell? ⟨ub,uo,none⟩=some (.string ⟨#[116,104,101,115,101,32,99,97,110,39,116,32,98,101,32,116,111,103,101,116,104,101,114,58]⟩)/\W.cell? ⟨ub,uo+1,none⟩=some (.string ⟨#[104,97,114,100,32,103,111,110,101,58]⟩)/\W.cell? ⟨ub,uo+2,none⟩=some (.string ⟨#[32,32,103,111,110,101,32,40,108,32,61,32,109,97,116,104,44,32,115,32,61,32,109,111,110,49,41,58,32,97,116,40,109,97,116,104,44,32,109,111,110,49,41,32,45,62,32,104,111,117,114,40,109,111,110,49,41,32,60,32,51]⟩)/\W.cell? ⟨ub,uo+3,none⟩=some (.string ⟨#[116,104,97,116,32,105,115,32,97,108,108]⟩)):=Lh (fun W hB=>by
  have cv:=fun q=>hB.cell (p:=⟨vb,q,none⟩) ln;have cu:=fun q=>hB.cell (p:=⟨ub,q,none⟩) lm;exact⟨(cv _).trans (n4 0 (by decide) 0 (by decide)),(cv _).trans (n4 1 (by decide) 0 (by decide)),(cu _).trans (m4 0 (by decide) 0 (by decide)),(cu _).trans (m4 1 (by decide) 0 (by decide)),(cu _).trans (m4 2 (by decide) 0 (by decide)),(cu _).trans (m4 3 (by decide) 0 (by decide))⟩)
 clear n1 n4 m1 m4;have ew:(⟨pG.toArray⟩:ByteArray)=⟨#[103,111,110,101,32,40,108,32,61,32,109,97,116,104,44,32,115,32,61,32,109,111,110,49,41,58,32,97,116,40,109,97,116,104,44,32,109,111,110,49,41,32,45,62,32,104,111,117,114,40,109,111,110,49,41,32,60,32,51]⟩:=rfl;dsimp only at LB ⊢;simp only[ew];refine bB 55 (S:=fun W=>Below wb.heap.size wb W) (by kernel_rfl) (Below.refl _ _).drew (fun hHeld=>?_);refine aV (i:=0) rfl hHeld ek ?_;refine aV (i:=1) rfl hHeld ek ?_;refine aV (i:=2) rfl hHeld ek ?_;refine aV (i:=3) rfl hHeld ek ?_;refine aV (i:=4) rfl hHeld ek ?_;refine aV (i:=5) rfl hHeld ek ?_;refine aV (i:=6) rfl hHeld ek ?_;refine aV (i:=7) rfl hHeld ek ?_;refine aV (i:=8) rfl hHeld ek ?_;refine aV (i:=9) rfl hHeld ek ?_;refine aV (i:=10) rfl hHeld ek ?_;refine aV (i:=11) rfl hHeld ek ?_;refine aV (i:=12) rfl hHeld ek ?_;refine aV (i:=13) rfl hHeld ek ?_;refine aV (i:=14) rfl hHeld ek ?_
 try simp only[show(⟨#[32,32]⟩:ByteArray)++⟨#[103,111,110,101,32,40,108,32,61,32,109,97,116,104,44,32,115,32,61,32,109,111,110,49,41,58,32,97,116,40,109,97,116,104,44,32,109,111,110,49,41,32,45,62,32,104,111,117,114,40,109,111,110,49,41,32,60,32,51]⟩=⟨#[32,32,103,111,110,101,32,40,108,32,61,32,109,97,116,104,44,32,115,32,61,32,109,111,110,49,41,58,32,97,116,40,109,97,116,104,44,32,109,111,110,49,41,32,45,62,32,104,111,117,114,40,109,111,110,49,41,32,60,32,51]⟩ from by decide+kernel]
 refine aV (i:=15) rfl hHeld ek ?_;refine aV (i:=16) rfl hHeld ek ?_;refine aV (i:=17) rfl hHeld ek ?_;refine aV (i:=18) rfl hHeld ek ?_;refine aV (i:=19) rfl hHeld ek ?_;refine aV (i:=20) rfl hHeld ek ?_;refine aV (i:=21) rfl hHeld ek ?_;refine aV (i:=22) rfl hHeld ek ?_;refine aV (i:=23) rfl hHeld ek ?_;refine aV (i:=24) rfl hHeld ek ?_;refine aV (i:=25) rfl hHeld ek ?_;refine aV (i:=26) rfl hHeld ek ?_;refine aV (i:=27) rfl hHeld ek ?_;refine aV (i:=28) rfl hHeld ek ?_;refine aV (i:=29) rfl hHeld ek ?_;refine aV (i:=30) rfl hHeld ek ?_;refine aV (i:=31) rfl hHeld ek ?_;refine aV (i:=32) rfl hHeld ek ?_;refine aV (i:=33) rfl hHeld ek ?_;refine aV (i:=34) rfl hHeld ek ?_;refine aV (i:=35) rfl hHeld ek ?_;refine aV (i:=36) rfl hHeld ek ?_;refine aV (i:=37) rfl hHeld ek ?_;refine aV (i:=38) rfl hHeld ek ?_;refine aV (i:=39) rfl hHeld ek ?_;refine aV (i:=40) rfl hHeld ek ?_;refine aV (i:=41) rfl hHeld ek ?_;refine aV (i:=42) rfl hHeld ek ?_;refine aV (i:=43) rfl hHeld ek ?_;refine aV (i:=44) rfl hHeld ek ?_;refine aV (i:=45) rfl hHeld ek ?_;refine aV (i:=46) rfl hHeld ek ?_;refine aV (i:=47) rfl hHeld ek ?_;refine aV (i:=48) rfl hHeld ek ?_;refine aV (i:=49) rfl hHeld ek ?_;refine aV (i:=50) rfl hHeld ek ?_;refine aV (i:=51) rfl hHeld ek ?_;refine aV (i:=52) rfl hHeld ek ?_;refine aV (i:=53) rfl hHeld ek ?_;refine aV (i:=54) rfl hHeld ek ?_;refine az (rs:=[55]) (by kernel_rfl) (by simp) ?_;refine eG rfl (by kernel_rfl) (fun K hK=>?_) aS;go_simp;refine hK.out _ _ ?_;clear hK K
 try simp only[Act.put,jZ,j3,j4]
 refine eT (by kernel_rfl) ?_ _;go_wp2_with fail;exact bodyPost_ret (v:=.bool true) (by simp[results,Tryz.results8,go_sem]) rfl ⟨rfl,LB.out.1.Vx.drew⟩
theorem Et(s:aF)(x:bS)(l:List bq)(z:aK)(xs:List gp)(xa:aK)(w:World)(hs:dD w (·<w.heap.size) s x)(hsm:SchSmall s)(hz:aj w (·<w.heap.size) (l.map bq.toD) z)(hl:l.length<=2000000)(hfr:∀r∈l,gF r)(hx:aj w (·<w.heap.size) (xs.map gp.toD) xa)(hxl:xs.length<=2000000)(hbl:∀i∈xs,i.binds.length<=2000000):
  Calls Tryz.prog 9 #[.agg (x.cells s).toArray,.slice z.a l.length z.cap,.slice xa.a xs.length xa.cap] w fun e w'=>∃b:Bool,e=.returned (.bool b)/\(b=true->l.length<=12/\xs.length<=40)/\Below w.heap.size w w':=by
 have HX:=Lh hx;have HZ:=Lh hz;have HS:=Lh hs;have Ad:=Lh hsm;have Uc:=Lh hfr;have lu:=Lh (aI hl (aI hxl hbl));obtain⟨SB,rO⟩:∃SB,SB=w.heap.size:=⟨_,rfl⟩;obtain⟨W0,hW0⟩:∃W0,W0=w.alloc (.cells #[.slice x.slots.a s.slots.length x.slots.cap,.slice x.ah.a s.ah.length x.ah.cap,.slice x.people.a s.people.length x.people.cap,.slice x.groups.a s.groups.length x.groups.cap,.slice x.lessons.a s.lessons.length x.lessons.cap] 28):=⟨_,rfl⟩;have hb0:Below w.heap.size w W0:=by rw[hW0];exact(Below.refl _ _).alloc (Nat.le_refl _) _
 have k0:W0.heap[SB]?=some (.cells #[.slice x.slots.a s.slots.length x.slots.cap,.slice x.ah.a s.ah.length x.ah.cap,.slice x.people.a s.people.length x.people.cap,.slice x.groups.a s.groups.length x.groups.cap,.slice x.lessons.a s.lessons.length x.lessons.cap] 28 (0,0)):=by rw[hW0,af,if_pos rO]
 have HB:=Lh (aI hb0 k0);have HW0:=Lh (aI hW0 rO);clear hx hz hs hsm hfr hl hxl hbl hb0 k0 hW0 rO;simp only[bS.cells,aK.val];go_enter Tryz.func9,Tryz.ntmps9;go_wp2_with fail
 try rw[<-HW0.out.2]
 rw[<-HW0.out.1];go_loop [7] (fun i=>∃j:Nat,j<=xs.length/\i=.int .i64 j) (fun i=>xs.length-(intOf i).toNat)
 case atStart=>exact⟨0,Nat.zero_le _,rfl⟩
 case round=>
  obtain⟨j,hj,rfl⟩:=hrel;have hle:=lu.out.2.1;obtain⟨v,hv⟩:∃v,v=(decide (j<xs.length)&&decide (j<60)):=⟨_,rfl⟩;have HV:=Lh hv;clear hv;have hcase:Hid ((j<xs.length/\j<60)∨(j<xs.length/\¬j<60)∨¬j<xs.length):=Lh (by omega);go_upto_region 2 with fail
  go_cut [16] from 9 to 25 (fun u w'=>u=.bool v/\w'=W0)
  case first=>
   rcases hcase.out with⟨p1,p2⟩|⟨p1,p2⟩|p1
   ·have hv:v=true:=by rw[HV.out];simp[p1,p2]
    subst hv;go_wp2_with fail
    all_goals(go_meet;exact⟨by first|rfl|(congr 1;simp;omega)|(exfalso;simp at sU;omega),rfl⟩)
   ·have hv:v=false:=by rw[HV.out];simp[p2]
    subst hv;have PQ:decide ((j:Int)<60)=false:=decide_eq_false (by omega);clear p2;go_wp2_with fail
    all_goals(go_meet;exact⟨by first|rfl|(congr 1;simp;omega)|(exfalso;simp at sU;omega),rfl⟩)
   ·have hv:v=false:=by rw[HV.out];simp[p1]
    subst hv;have sU:decide ((j:Int)<(xs.length:Int))=false:=decide_eq_false (by omega);clear p1;go_wp2_with fail
    all_goals(go_meet;exact⟨by first|rfl|(congr 1;simp;omega)|(exfalso;simp at sU;omega),rfl⟩)
  case rest=>
   obtain⟨rfl,rfl⟩:=hcut;cases v;rotate_left
   ·have hlt:j<xs.length:=by
     have h:=HV.out;rcases hcase.out with⟨p1,p2⟩|⟨p1,p2⟩|p1
     ·exact p1
     ·exact p1
     ·rw[decide_eq_false p1] at h;simp at h
    clear HV hcase;obtain⟨y,hy1,hy2⟩:=HX.out.Ws j hlt;obtain⟨hxa,kg⟩:=HX.out.at_ (by rw[List.length_map];omega);obtain⟨q0,q1,_⟩:=ay.six hy2;have e1:=(HB.out.1.cell (p:=⟨xa.b,xa.o+j*6+1,none⟩) kg).trans q1;have hbn:xs[j].binds.length<=2000000:=lu.out.2.2 _ (List.getElem_mem _);generalize xs[j].binds=bl at e1 hbn;obtain⟨xaa,xab,xao,xac⟩:=xa;dsimp only at hxa e1 ⊢;subst hxa;simp only[aK.val] at e1;clear q0 q1 hy1 hy2 kg;by_cases hq:(12:Int)<(bl.length:Int)
    ·go_wp2_with fail;go_ret;exact .inl ⟨rfl,HB.out.1⟩
    ·have hq':decide ((12:Int)<(bl.length:Int))=false:=decide_eq_false hq;clear hq;go_wp2_with fail;go_round
     case rel=>exact⟨j+1,by omega,by go_num⟩
     case measure=>simp[intOf];omega
   ·clear HV hcase;go_wp2_with fail;have HB2:Hid (∀W,Below wc.heap.size wc W->Below w.heap.size w W/\(W.cell? ⟨SB,0,none⟩=some (.slice x.slots.a s.slots.length x.slots.cap)/\W.cell? ⟨SB,1,none⟩=some (.slice x.ah.a s.ah.length x.ah.cap)/\W.cell? ⟨SB,2,none⟩=some (.slice x.people.a s.people.length x.people.cap)/\W.cell? ⟨SB,3,none⟩=some (.slice x.groups.a s.groups.length x.groups.cap)/\W.cell? ⟨SB,4,none⟩=some (.slice x.lessons.a s.lessons.length x.lessons.cap))):=Lh (fun W hW=>by
     have h:=(hW.block _ (gS HB.out.2).1).trans HB.out.2;exact⟨HB.out.1.trans (hW.mono HB.out.1.size),cH h rfl,cH h rfl,cH h rfl,cH h rfl,cH h rfl⟩)
    go_loopw [8] (fun i wr=>∃j:Nat,j<=l.length/\i=.int .i64 j/\Hid (Below wc.heap.size wc wr)) (fun i _=>l.length-(intOf i).toNat)
    case atStart=>exact⟨0,Nat.zero_le _,rfl,Lh (Below.refl _ _)⟩
    case round=>
     obtain⟨j,hj,rfl,HW⟩:=hrel;have hle:=lu.out.1;obtain⟨v,hv⟩:∃v,v=(decide (j<l.length)&&decide (j<20)):=⟨_,rfl⟩;have HV:=Lh hv;clear hv;have hcase:Hid ((j<l.length/\j<20)∨(j<l.length/\¬j<20)∨¬j<l.length):=Lh (by omega);go_upto_region 7 with fail
     go_cut [33] from 26 to 60 (fun u w'=>u=.bool v/\w'=wr)
     case first=>
      rcases hcase.out with⟨p1,p2⟩|⟨p1,p2⟩|p1
      ·have hv:v=true:=by rw[HV.out];simp[p1,p2]
       subst hv;go_wp2_with fail
       all_goals(go_meet;exact⟨by first|rfl|(congr 1;simp;omega)|(exfalso;simp at sU;omega),rfl⟩)
      ·have hv:v=false:=by rw[HV.out];simp[p2]
       subst hv;have PQ:decide ((j:Int)<20)=false:=decide_eq_false (by omega);clear p2;go_wp2_with fail
       all_goals(go_meet;exact⟨by first|rfl|(congr 1;simp;omega)|(exfalso;simp at sU;omega),rfl⟩)
      ·have hv:v=false:=by rw[HV.out];simp[p1]
       subst hv;have sU:decide ((j:Int)<(l.length:Int))=false:=decide_eq_false (by omega);clear p1;go_wp2_with fail
       all_goals(go_meet;exact⟨by first|rfl|(congr 1;simp;omega)|(exfalso;simp at sU;omega),rfl⟩)
     case rest=>
      obtain⟨rfl,rfl⟩:=hcut;cases v;rotate_left
      ·have hlt:j<l.length:=by
        have h:=HV.out;rcases hcase.out with⟨p1,p2⟩|⟨p1,p2⟩|p1
        ·exact p1
        ·exact p1
        ·rw[decide_eq_false p1] at h;simp at h
       clear HV hcase;have hbw:=(HB2.out _ HW.out).1;obtain⟨y,hy1,hy2⟩:=(HZ.out.later hbw hbw.size).Aj j hlt;obtain⟨hza,kg⟩:=HZ.out.at_ (by rw[List.length_map];omega);have hft:=Uc.out _ (List.getElem_mem hlt);obtain⟨zaa,TW,UO,zac⟩:=z;dsimp only at hza kg hy2 ⊢;subst hza;obtain⟨q0,q1,q2,q3,q4,q5,q6,q7,q8,q9⟩:=ay.ten hy2;have HK:Hid (∀W,Below wc.heap.size wc W->W.cell? ⟨TW,UO+j*10,none⟩=some (.string ⟨l[j].name.toArray⟩)/\W.cell? ⟨TW,UO+j*10+3,none⟩=some (y.each.val l[j].each.length)):=Lh (fun W hW=>by
        have hz1:TW<wc.heap.size:=Nat.lt_of_lt_of_le kg hbw.size;exact⟨(hW.cell (p:=⟨TW,UO+j*10,none⟩) hz1).trans q0,(hW.cell (p:=⟨TW,UO+j*10+3,none⟩) hz1).trans q3⟩)
       have H8:=Lh (Ip l[j].body.size l[j].body y.body _ (Nat.le_refl _) hft.body.size hy1.body);have hbn:l[j].each.length<=1500000:=hft.len;have hnn:l[j].name.length<=4000000:=hft.name;simp only[gB,aC.cells,aK.val] at H8 q4 q5 q6 q7 q8 q9 HK;clear hy1 hy2 hft q0 q1 q2 q3 kg hbw;go_wp2_with fail;refine H8.out.mono ?_;rintro e w1 ⟨b1,rfl,hb1⟩;obtain⟨e0,e3⟩:=HK.out w1 hb1;have H1:=Lh (HW.out.trans (hb1.mono HW.out.size));clear H8 q4 q5 q6 q7 q8 q9 hb1 HK;cases b1
       ·go_wp2_with fail;go_ret;exact⟨false,rfl,fun h=>by simp at h,(HB2.out _ H1.out).1⟩
       generalize l[j].each.length=en at e3 hbn;generalize l[j].name=nm at e0 hnn;by_cases p1:(12:Int)<(en:Int)
       ·go_wp2_with fail;go_ret;exact⟨false,rfl,fun h=>by simp at h,(HB2.out _ H1.out).1⟩
       have sU:decide ((12:Int)<(en:Int))=false:=decide_eq_false p1;clear p1;by_cases p2:(100:Int)<(nm.length:Int)
       ·go_wp2_with fail;go_ret;exact⟨false,rfl,fun h=>by simp at h,(HB2.out _ H1.out).1⟩
       have PQ:decide ((100:Int)<(nm.length:Int))=false:=decide_eq_false p2;clear p2;go_wp2_with fail;go_round
       case rel=>exact⟨j+1,by omega,by go_num,H1⟩
       case measure=>simp[intOf];omega
      ·clear HV hcase;obtain⟨hbw,c0,c1,c2,c3,c4⟩:=HB2.out _ HW.out;have H3:=Lh (Io s x _ (HS.out.later hbw hbw.size) Ad.out);simp only[bS.cells,aK.val] at H3;clear hbw;go_wp2_with fail;refine H3.out.mono ?_;rintro e w1 ⟨b1,rfl,hb1⟩;have H1:=Lh (HW.out.trans (hb1.mono HW.out.size));clear H3 c0 c1 c2 c3 c4 hb1;have hlx:=lu.out.2.1;cases b1
       ·go_wp2_with fail;go_ret;exact⟨false,rfl,fun h=>by simp at h,(HB2.out _ H1.out).1⟩
       by_cases p1:(l.length:Int)<=12;rotate_left
       ·have sU:decide ((l.length:Int)<=12)=false:=decide_eq_false p1;clear p1;go_wp2_with fail;go_ret;exact⟨false,rfl,fun h=>by simp at h,(HB2.out _ H1.out).1⟩
       by_cases p2:(xs.length:Int)<=40;rotate_left
       ·have PQ:decide ((xs.length:Int)<=40)=false:=decide_eq_false p2;clear p2;go_wp2_with fail;go_ret;exact⟨false,rfl,fun h=>by simp at h,(HB2.out _ H1.out).1⟩
       go_wp2_with fail;go_ret;exact⟨true,rfl,fun _=>⟨by omega,by omega⟩,(HB2.out _ H1.out).1⟩
end Go.Proofs.YtncnnbmeacpboaaGreatDoor
namespace Go.aa
open Go.RowKit
variable {B lo hi n:Nat} {S F F0:Nat->Prop} {a b c w W:World} {x:D} {cs:List Value} {e:TypeId} {o:Oper} {K:Act->World->Prop} {Q:Exit->Act->World->Prop} {m:List (Bs×Bs)} {t:bH}
def pM(w:World)(F0:Nat->Prop)(e:TypeId)(sz lo hi:Nat)(v:Value)(xs:List D):Prop:=∃r,aa.Own w (fun k=>F0 k∨(lo<=k/\k<w.heap.size/\r≠some k)) e sz v r xs/\∀k,r=some k->lo<=k/\k<hi
theorem pM.nil(w:World)(F0:Nat->Prop)(h0:∀k,F0 k->k<w.heap.size)(e:TypeId)(sz lo hi:Nat):pM w F0 e sz lo hi (.slice none 0 0) []:=⟨none,Own.nil _ _ _ _ (fun k h=>by rcases h with h|h;exact h0 k h;exact h.2.1),fun _ h=>by cases h⟩
theorem pM.form{w:World}{F0:Nat->Prop}{e:TypeId}{sz lo hi:Nat}{v:Value}{xs:List D}(h:pM w F0 e sz lo hi v xs):∃a cap,v=.slice a xs.length cap:=by
 obtain⟨q,h,_⟩:=h;obtain⟨a,cap,h⟩:=Own.form h;exact⟨a,cap,h⟩
theorem pM.kept{w w':World}{F0:Nat->Prop}{e:TypeId}{sz lo hi:Nat}{v:Value}{xs:List D}{S:Nat->Prop}(h:pM w F0 e sz lo hi v xs)(hm:Mod S w w')(hS:∀k,S k->k<lo/\¬F0 k):pM w' F0 e sz lo hi v xs:=by
 obtain⟨r,h1,h2⟩:=h;have h3:=h1.kept hm (fun k hk hs=>by have:=hS k hs;rcases hk with hk|hk;exact this.2 hk;omega) (fun k hk hs=>by have:=hS k hs;have:=h2 k hk;omega);exact⟨r,h3.widen (fun k hk=>by rcases hk with hk|hk;exact .inl hk;exact .inr ⟨hk.1,Nat.lt_of_lt_of_le hk.2.1 hm.size,hk.2.2⟩) (fun k hk hg=>by rcases hg with hg|hg;exact h1.off k hk (.inl hg);exact hg.2.2 hk) (fun k hk=>by rcases hk with hk|hk;exact Nat.lt_of_lt_of_le (h1.lt k (.inl hk)) hm.size;exact hk.2.1),h2⟩
theorem pM.sl{sz:Nat}{v:Value}{xs:List D}(h:pM w F0 e sz lo hi v xs)(hw:bO xs=xs.length*sz):∃z:aK,v=z.val xs.length/\aj w (fun k=>F0 k∨(lo<=k/\k<w.heap.size)) xs z:=by
 obtain⟨r,h,hr⟩:=h;have:=h.read (G:=fun k=>F0 k∨(lo<=k/\k<w.heap.size)) (fun k hk=>by rcases hk with hk|hk;exact .inl hk;exact .inr ⟨hk.1,hk.2.1⟩) (fun k hk=>.inr ⟨(hr k hk).1,h.fQ hk⟩) hw;obtain⟨z,hz,hs⟩:=bg.cO.1 this;exact⟨z,by simpa using hz,hs⟩
end Go.aa
namespace Go.aa
open Go.RowKit
variable {P:Program}
variable {B lo hi n:Nat} {S F F0:Nat->Prop} {a b c w W:World} {x:D} {cs:List Value} {e:TypeId} {o:Oper} {K:Act->World->Prop} {Q:Exit->Act->World->Prop} {m:List (Bs×Bs)} {t:bH}
theorem CZ{a:Act}(s x:Operand)(t:TypeId)(ho:o.op=.call { callee:=.builtin .append,args:=#[s,x],argTypes:=#[t,t]})(e:TypeId)(i:TypeInfo)(z:Value)(size bytes:Nat)(ht:P.underlying t=some (.slice e))(hi':P.info? e=some i)(hz:i.zero=some z)(hsize:i.size=size)(hby:i.bytes=bytes)(hzs:z.cells.size=size)(hsz:0<size)(v:Value)(xs:List D)(hn:xs.length=n)(y:D)(cs:List Value)(U:TypeId)(hs:a.eval s=v)(hx:a.eval x=.slice (some ⟨B,0,none⟩) 1 1)(hrow:w.heap[B]?=some (.cells cs.toArray U (0,0)))(hv:pM w F0 e size lo hi v xs)(hlo:lo<=hi)(hhi:hi<=w.heap.size)(hd:au w (fun k=>F0 k∨(hi<=k/\k<w.heap.size)) [y] cs)(hw:y.width=size)(h63:n+1<=maxLen)(hbytes:(n+1)*bytes<=140737488355328)(h:∀ao cap w',pM w' F0 e size lo w'.heap.size (.slice ao (n+1) cap) (xs++[y])->Mod (fun k=>lo<=k) w w'->K (a.put o.dst (.slice ao (n+1) cap)) w'):
  o.wp P a w K Q:=by
 subst hn;obtain⟨r,h1,h2⟩:=hv;have hnews:∀j u,cs[j]?=some u->w.cell? ((⟨B,0,none⟩:Addr).add j)=some u:=fun j u hu=>by
  have hc:=cH (i:=j) hrow (v:=u) (by simpa using hu);unfold Addr.add;by_cases h0:j=0
  ·subst h0;simpa using hc
  ·rw[if_neg h0];simpa using hc
 have hlen:cs.length=1*size:=by
  have:=au.length _ _ hd;rw[this];simp[bO,hw]
 have hd':au w (fun k=>F0 k∨(lo<=k/\k<w.heap.size/\r≠some k)) [y] cs:=au.mono (fun k hk=>by rcases hk with hk|hk;exact .inl hk;exact .inr ⟨Nat.le_trans hlo hk.1,hk.2,fun hr=>by have:=(h2 k hr).2;have:=hk.1;omega⟩) _ _ hd;obtain⟨cs0,k1,k2⟩:=h1.cells;refine wp_append_lies w s x t ho 0 e i z size bytes ht hi' hz hsize hby hzs hsz v xs.length cs0 hs k1 ⟨B,0,none⟩ 1 1 cs hx hlen hnews (au.one _ _ hd) (by omega) h63 hbytes (Nat.zero_le _) _ rfl (fun g cap w' hown hgr hat hlt=>?_);obtain⟨g1,g2,g3⟩:=h1.appended (ys:=[y]) k2 hown hgr (by rcases hat with h|h;exact .inl h.symm;exact .inr (by rw[h];rfl)) hd';have g4:∀k,(Value.slice (some ⟨g,0,none⟩) (xs.length+1) cap).ownBlock=some k->lo<=k/\k<w'.heap.size:=fun k hk=>by
  rcases g3 with g3|g3
  ·rw[g3] at hk;exact⟨(h2 k hk).1,Nat.lt_of_lt_of_le (h1.fQ hk) g2.size⟩
  ·rw[g3] at hk;have hg:g=w.heap.size:=by simpa[Value.ownBlock] using g3
   simp at hk;omega
 refine h _ _ _ ⟨_,g1.widen (fun k hk=>by rcases hk with hk|hk;exact .inl hk;exact .inr ⟨hk.1,Nat.lt_of_lt_of_le hk.2.1 g2.size,fun hr=>g1.off k hr (.inr hk)⟩) (fun k hk hg=>by rcases hg with hg|hg;exact g1.off k hk (.inl hg);exact hg.2.2 hk) (fun k hk=>by rcases hk with hk|hk;exact Nat.lt_of_lt_of_le (h1.lt k (.inl hk)) g2.size;exact hk.2.1),g4⟩ (g2.mono (fun k hk=>(h2 k hk).1))
theorem xL{ops:Array Oper}{a:Act}{E:Prop}(hgd:o.guard=none)(s x:Operand)(t:TypeId)(ho:o.op=.call { callee:=.builtin .append,args:=#[s,x],argTypes:=#[t,t]})(e:TypeId)(i:TypeInfo)(z:Value)(size bytes:Nat)(ht:P.underlying t=some (.slice e))(hi':P.info? e=some i)(hz:i.zero=some z)(hsize:i.size=size)(hby:i.bytes=bytes)(hzs:z.cells.size=size)(hsz:0<size)(v:Value)(xs:List D)(hn:xs.length=n)(y:D)(cs:List Value)(U:TypeId)(hs:a.eval s=v)(hx:a.eval x=.slice (some ⟨B,0,none⟩) 1 1)(hrow:w.heap[B]?=some (.cells cs.toArray U (0,0)))(hv:pM w F0 e size lo hi v xs)(hlo:lo<=hi)(hhi:hi<=w.heap.size)(hd:au w (fun k=>F0 k∨(hi<=k/\k<w.heap.size)) [y] cs)(hw:y.width=size)(h63:n+1<=maxLen)(hbytes:(n+1)*bytes<=140737488355328)(h:∀ao cap w',pM w' F0 e size lo w'.heap.size (.slice ao (n+1) cap) (xs++[y])->Mod (fun k=>lo<=k) w w'->K (a.put o.dst (.slice ao (n+1) cap)) w'):
  if Region.wanted o (yielded ops a.tmps)=true then Oper.wp P o a w K Q else E:=by
 have hwn:Region.wanted o (yielded ops a.tmps)=true:=by simp[Region.wanted,hgd]
 rw[if_pos hwn];exact CZ s x t ho e i z size bytes ht hi' hz hsize hby hzs hsz v xs hn y cs U hs hx hrow hv hlo hhi hd hw h63 hbytes h
end Go.aa
namespace Go.aa
open Go.RowKit
variable {B lo hi n:Nat} {S F F0:Nat->Prop} {a b c w W:World} {x:D} {cs:List Value} {e:TypeId} {o:Oper} {K:Act->World->Prop} {Q:Exit->Act->World->Prop} {m:List (Bs×Bs)} {t:bH}
def Ai(m:List (Bs×Bs))(t:bH):Bs:=if t.kind=1 then t.name else(lJ m t.name).getD t.name
theorem OC(t:bH):Ai [] t=t.name:=by unfold Ai;split<;>rfl
theorem Oz(m:List (Bs×Bs))(t:bH):mW m t=⟨t.kind,Ai m t,t.n⟩:=by
 unfold mW Ai lD;by_cases h:t.kind=1
 ·simp[h];cases t;simp at h;subst h;rfl
 ·simp only[h,if_false];cases lJ m t.name<;>rfl
theorem LV{k:Nat}(hk:k<m.length):Ai (m.take (k+1)) t=if t.kind≠1/\t.name=m[k].1 then m[k].2 else Ai (m.take k) t:=by
 unfold Ai;by_cases h:t.kind=1
 ·simp[h]
 ·simp only[h,if_false,ne_eq,not_false_eq_true,true_and];rw[List.take_succ_eq_append_getElem hk,DW];by_cases h2:t.name=m[k].1
  ·rw[if_pos h2,if_pos (by simpa using h2.symm)];rfl
  ·rw[if_neg h2,if_neg (by simpa using fun e=>h2 e.symm)]
theorem OA(ht:t.name.length<=4000000)(hm:∀p∈m,p.2.length<=4000000):(Ai m t).length<=4000000:=by
 unfold Ai;split
 ·exact ht
 ·unfold lJ;cases h:m.reverse.find? (fun p=>p.1==t.name) with
  |none=>exact ht
  |some p=>exact hm p (List.mem_reverse.1 (List.mem_of_find?_eq_some h))
theorem yD(m:List (Bs×Bs)):∀l:List ae,yC m l=l.map (fC m)
 |[]=>rfl
 |f::r=>by rw[yC,List.map_cons,yD m r]
theorem mg(h:Below B a b)(k:Mod S b c)(hB:B<=b.heap.size)(hS:∀i,S i->B<=i):Below B a c:=h.trans (k.below hB hS)
theorem D5(h:Mod S a b)(n:Nat):Mod S a (b.drewN n):=⟨h.os,h.tape,h.output,h.size,h.block⟩
def Vw(m:List (Bs×Bs))(f:ae)(w:World)(F0:Nat->Prop)(e:Ending)(w':World):Prop:=∃y':aC,e=.returned (.agg (y'.cells (fC m f)).toArray)/\aB w' (XC F0 w w') (fC m f) y'/\Below w.heap.size w w'
end Go.aa
namespace Go.Proofs.YtncnnbmeacpboaaGreatDoor
open Go.RowKit Go.aa
attribute [local go_sem] Oper.semAt_some
variable {B lo hi n:Nat} {S F F0:Nat->Prop} {a b c w W:World} {x:D} {cs:List Value} {e:TypeId} {o:Oper} {K:Act->World->Prop} {Q:Exit->Act->World->Prop} {m:List (Bs×Bs)} {t:bH}
theorem K7:(Tryz.prog.info? 92).map (fun i=>(i.zero,i.size,i.bytes))=some (some (.agg #[.int .i64 0,.string ByteArray.empty,.int .i64 0]),3,32):=by kernel_rfl
theorem zM(fr nk:List Bs)(fa ta:aK)(hlen:fr.length=nk.length)(hfl:fr.length<=1000000)(hto:∀s∈nk,s.length<=4000000):∀(sz:Nat) (f:ae),f.size<=sz->gZ f->∀(y:aC) (w:World) (F0:Nat->Prop),aB w F0 f y->(∀k,F0 k->k<w.heap.size)->aj w (·<w.heap.size) (fr.map bM) fa->aj w (·<w.heap.size) (nk.map bM) ta->
  Calls Tryz.prog 29 #[.agg (y.cells f).toArray,.slice fa.a fr.length fa.cap,.slice ta.a nk.length ta.cap] w (Vw (fr.zip nk) f w F0):=by
 intro sz
 induction sz with
 |zero=>intro f hf;have:=f.size_pos;omega
 |succ sz ih=>
 intro f hsz hfit y w F0 hx Nh hfa uh;obtain⟨B,hB⟩:∃B,B=w.heap.size:=⟨_,rfl⟩;have Aa:=Lh ih;obtain⟨kind,fname,n,terms,binds,fl⟩:=f;obtain⟨yt,yb,yl⟩:=y;have sF:=Lh (fun(j:Nat) (hj:j<fl.length)=>(show(fl[j]).size<=sz by have h1:=aT fl j hj;rw[ae.size] at hsz;omega));have U3:=Lh (fun(j:Nat) (hj:j<fl.length)=>hfit.part hj);have hsm:jo (.mk kind fname n terms binds fl):=hfit.nodes _ (by rw[aJ];exact List.mem_cons_self ..);have htl:terms.length<=2000000:=hsm.1;have hll:fl.length<=2000000:=hsm.2.2.1;have hnm:∀t∈terms,t.name.length<=4000000:=hsm.2.2.2.2.1;obtain⟨W1,hW1⟩:∃W1,W1=w.alloc (.cells #[.int .i64 kind,.string ⟨fname.toArray⟩,.int .i64 n,.slice yt.a terms.length yt.cap,.slice yb.a binds.length yb.cap,.slice yl.a fl.length yl.cap] 64):=⟨_,rfl⟩;obtain⟨W2,hW2⟩:∃W2,W2=W1.alloc (.cells #[.int .i64 0,.string ⟨#[]⟩,.int .i64 0,.slice none 0 0,.slice none 0 0,.slice none 0 0] 64):=⟨_,rfl⟩;obtain⟨W3,hW3⟩:∃W3,W3=W2.alloc (.cells #[.int .i64 kind,.string ⟨fname.toArray⟩,.int .i64 n,.slice none 0 0,.slice yb.a binds.length yb.cap,.slice none 0 0] 64):=⟨_,rfl⟩;have hs1:W1.heap.size=B+1:=by rw[hW1,hB];simp
 have hs2:W2.heap.size=B+2:=by rw[hW2];simp[hs1]
 have hs3:W3.heap.size=B+3:=by rw[hW3];simp[hs2]
 have hb3:Below w.heap.size w W3:=by rw[hW3,hW2,hW1];exact(((Below.refl _ _).alloc (Nat.le_refl _) _).alloc (by simp) _).alloc (by simp;omega) _
 have kA:W2.heap[B]?=some (.cells #[.int .i64 kind,.string ⟨fname.toArray⟩,.int .i64 n,.slice yt.a terms.length yt.cap,.slice yb.a binds.length yb.cap,.slice yl.a fl.length yl.cap] 64 (0,0)):=by rw[hW2,af,if_neg (by omega),hW1,af,if_pos hB]
 have k0:W3.heap[B]?=some (.cells #[.int .i64 kind,.string ⟨fname.toArray⟩,.int .i64 n,.slice yt.a terms.length yt.cap,.slice yb.a binds.length yb.cap,.slice yl.a fl.length yl.cap] 64 (0,0)):=by rw[hW3,af,if_neg (by omega)];exact kA
 have k1:W3.heap[B+1]?=some (.cells #[.int .i64 0,.string ⟨#[]⟩,.int .i64 0,.slice none 0 0,.slice none 0 0,.slice none 0 0] 64 (0,0)):=by rw[hW3,af,if_neg (by omega),hW2,af,if_pos hs1.symm]
 have k2:W3.heap[B+2]?=some (.cells #[.int .i64 kind,.string ⟨fname.toArray⟩,.int .i64 n,.slice none 0 0,.slice yb.a binds.length yb.cap,.slice none 0 0] 64 (0,0)):=by rw[hW3,af,if_pos hs2.symm]
 have a0:W2.cell? ⟨B,0,none⟩=some (.int .i64 kind):=cH kA rfl;have a1:W2.cell? ⟨B,1,none⟩=some (.string ⟨fname.toArray⟩):=cH kA rfl;have a2:W2.cell? ⟨B,2,none⟩=some (.int .i64 n):=cH kA rfl;have a4:W2.cell? ⟨B,4,none⟩=some (.slice yb.a binds.length yb.cap):=cH kA rfl;have HOLD:Hid (∀W,Below (B+2) W3 W->Below w.heap.size w W/\W.cell? ⟨B,3,none⟩=some (.slice yt.a terms.length yt.cap)/\W.cell? ⟨B,5,none⟩=some (.slice yl.a fl.length yl.cap)/\W.heap[B+1]?=some (.cells #[.int .i64 0,.string ⟨#[]⟩,.int .i64 0,.slice none 0 0,.slice none 0 0,.slice none 0 0] 64 (0,0))):=Lh (fun W hW=>by
  have h0:=(hW.block B (by omega)).trans k0;exact⟨hb3.trans (hW.mono (by omega)),cH h0 rfl,cH h0 rfl,(hW.block (B+1) (by omega)).trans k1⟩)
 have Jp:=Lh (fun(W:World) (hW:Below w.heap.size w W)=>(show aB W F0 (.mk kind fname n terms binds fl) ⟨yt,yb,yl⟩ from hx.agree ((ag hW).mono Nh)));have Vo:Hid (0<terms.length->yt.a=some ⟨yt.b,yt.o,none⟩/\F0 yt.b):=Lh (fun h=>hx.terms.at_ (by rw[List.length_map];exact h));have R4:Hid (0<fl.length->yl.a=some ⟨yl.b,yl.o,none⟩/\F0 yl.b):=Lh (fun h=>hx.l.at_ (by rw[List.length_map];exact h));have Xx:Hid (∀W,Below w.heap.size w W->∀(j:Nat) (hj:j<terms.length),W.cell? ⟨yt.b,yt.o+j*3,none⟩=some (.int .i64 terms[j].kind)/\W.cell? ⟨yt.b,yt.o+j*3+1,none⟩=some (.string ⟨terms[j].name.toArray⟩)/\W.cell? ⟨yt.b,yt.o+j*3+2,none⟩=some (.int .i64 terms[j].n)):=Lh (fun W hW j hj=>by
  have h0:=(show aB W F0 (.mk kind fname n terms binds fl) ⟨yt,yb,yl⟩ from hx.agree ((ag hW).mono Nh)).terms;obtain⟨_,_,_,h4,_⟩:=h0.flat bH.bI;exact h4.three j hj rfl)
 have ou:Hid (∀W,Below w.heap.size w W->aj W (·<W.heap.size) (fr.map bM) fa/\aj W (·<W.heap.size) (nk.map bM) ta):=Lh (fun W hW=>⟨hfa.later hW hW.size,uh.later hW hW.size⟩);have U1:Hid (∀W,Below w.heap.size w W->∀(k:Nat) (h:k<fr.length),fa.a=some ⟨fa.b,fa.o,none⟩/\W.cell? ⟨fa.b,fa.o+k,none⟩=some (.string ⟨fr[k].toArray⟩)):=Lh (fun W hW k h=>by
  obtain⟨n1,_,_,n4,_⟩:=(hfa.later hW hW.size).flat bV;have:=n4 k h 0 (by simp[bM,D.vals]);exact⟨(n1 (by omega)).1,by simpa[bM,D.vals] using this⟩)
 have Ze:Hid (∀W,Below w.heap.size w W->∀(k:Nat) (h:k<nk.length),ta.a=some ⟨ta.b,ta.o,none⟩/\W.cell? ⟨ta.b,ta.o+k,none⟩=some (.string ⟨nk[k].toArray⟩)):=Lh (fun W hW k h=>by
  obtain⟨n1,_,_,n4,_⟩:=(uh.later hW hW.size).flat bV;have:=n4 k h 0 (by simp[bM,D.vals]);exact⟨(n1 (by omega)).1,by simpa[bM,D.vals] using this⟩)
 have ow:=Lh hnm;have HLEN:=Lh (aI hlen (aI hfl hto));have PZ:=Lh Nh;have HS:=Lh (aI hB (aI hs1 (aI hs2 hs3)));have HW:=Lh (aI hW1 (aI hW2 hW3));have Uf:=Lh k2;have kg:∀k,F0 k->k<B:=fun k hk=>by have:=Nh k hk;omega
 have F8:=Lh kg;obtain⟨i0,hi,hz0,hz1,hz2⟩:=info_parts K7;obtain⟨i1,hi1,hy0,hy1,hy2⟩:=info_parts Bt;have ZU:B<W2.heap.size:=by omega
 clear hx Nh hfit hsm hnm hb3 kA k0 k1 k2 hB hW1 hW2 hW3 hs1 hs2 hs3 ih hsz hfa uh hlen hfl hto kg;simp only[aC.cells,aK.val,ae.kind,ae.name,ae.n,ae.terms,ae.binds,ae.l] at Aa ⊢;go_enter Tryz.func29,Tryz.ntmps29;go_upto_region 1 with fail
 rw[<-HS.out.1];rw[<-HW.out.1,<-HW.out.2.1];go_upto_region 2 with fail
 rw[HS.out.2.2.1,<-HW.out.2.2];clear a0 a1 a2 a4;go_wp2_with fail;go_loopw [8] (fun ix wr=>∃j:Nat,j<=terms.length/\ix=.int .i64 j/\Hid (Below (B+2) W3 wr)/\Hid (∃tv,wr.heap[B+2]?=some (.cells #[.int .i64 kind,.string ⟨fname.toArray⟩,.int .i64 n,tv,.slice yb.a binds.length yb.cap,.slice none 0 0] 64 (0,0))/\fP wr (B+3) (fun _=>False) 92 3 tv (((terms.take j).map (mW (fr.zip nk))).map bH.toD))) (fun ix _=>terms.length-(intOf ix).toNat)
 case atStart=>exact⟨0,Nat.zero_le _,rfl,Lh (Below.refl _ _),Lh ⟨_,Uf.out,fP.nil _ _ _ _ _ (fun _ h=>h.elim)⟩⟩
 case round=>
  obtain⟨j,hj,rfl,HB,HX⟩:=hrel;obtain⟨hbw,c3,c5,_⟩:=HOLD.out wr HB.out;by_cases hlt:j<terms.length
  ·obtain⟨uh,htb⟩:=Vo.out (by omega);obtain⟨e0,e1,e2⟩:=Xx.out wr hbw j hlt;have Ry:=Lh (fun(W:World) (hW:Below w.heap.size w W)=>Xx.out W hW j hlt);have Nb:=Lh (ow.out _ (List.getElem_mem hlt));have zZ:=Lh (((Jp.out wr hbw).terms.flat bH.bI).2.2.2.2 _ (List.getElem_mem hlt));have tL:=Lh (List.take_succ_eq_append_getElem hlt);generalize terms[j]=tm at e0 e1 e2 Ry Nb tL zZ;obtain⟨tk,CO,tn⟩:=tm;dsimp only at e0 e1 e2 Ry Nb;obtain⟨TB,UC⟩:∃TB,TB=wr.heap.size:=⟨_,rfl⟩;obtain⟨wt,hwt⟩:∃wt,wt=wr.alloc (.cells #[.int .i64 tk,.string ⟨CO.toArray⟩,.int .i64 tn] 92):=⟨_,rfl⟩;have hbt:Below wr.heap.size wr wt:=by rw[hwt];exact aG _ _
   have kt:wt.heap[TB]?=some (.cells #[.int .i64 tk,.string ⟨CO.toArray⟩,.int .i64 tn] 92 (0,0)):=by rw[hwt,af,if_pos UC]
   have VL:B+2<TB:=by obtain⟨tv,h1,_⟩:=HX.out;rw[UC];exact(gS h1).1
   have HQ:Hid (∀W,aa.Mod (fun q=>q=TB) wt W->Below wr.heap.size wr W/\Below (B+2) W3 W/\Below w.heap.size w W/\W.cell? ⟨B,3,none⟩=some (.slice (some ⟨yt.b,yt.o,none⟩) terms.length yt.cap)/\W.cell? ⟨yt.b,yt.o+j*3,none⟩=some (.int .i64 tk)/\W.cell? ⟨yt.b,yt.o+j*3+1,none⟩=some (.string ⟨CO.toArray⟩)):=Lh (fun W hm=>by
    have h1:Below wr.heap.size wr W:=mg hbt hm hbt.size (fun i e=>by omega);have h2:Below (B+2) W3 W:=HB.out.trans (h1.mono (by omega));obtain⟨h3,h4,_⟩:=HOLD.out W h2;obtain⟨h5,h6,_⟩:=Ry.out W h3;exact⟨h1,h2,h3,by rw[<-uh];exact h4,h5,h6⟩)
   have wT:=Lh hwt;have Su:=Lh (aI UC VL);have Ac:=Lh kt;rw[uh] at c3;have ZV:B<wr.heap.size:=by omega
   have hjt:(j:Int)<(terms.length:Int):=by omega
   clear hwt hbt kt VL UC uh htb hbw c5;go_wp2_with fail;rw[<-Su.out.1,<-wT.out];clear c3 e0 e1 e2 ZV;obtain⟨wo,rfl⟩:∃wo,wo=wr:=⟨wr,rfl⟩;go_loopw [10] (fun ix wq=>∃k:Nat,k<=fr.length/\ix=.int .i64 k/\Hid (aa.Mod (fun q=>q=TB) wt wq)/\Hid (wq.heap[TB]?=some (.cells #[.int .i64 tk,.string ⟨(Ai ((fr.zip nk).take k) ⟨tk,CO,tn⟩).toArray⟩,.int .i64 tn] 92 (0,0)))) (fun ix _=>fr.length-(intOf ix).toNat)
   case atStart=>exact⟨0,Nat.zero_le _,rfl,Lh (aa.Mod.refl _ _),Lh (by rw[List.take_zero,OC];exact Ac.out)⟩
   case round=>
    obtain⟨k,hk,rfl,HM,HN⟩:=hrel;obtain⟨hbr,hb3,hbw,c3,e0,e1⟩:=HQ.out wr HM.out;have hfl:=HLEN.out.2.1;by_cases hkl:k<fr.length
    ·have hkt:k<nk.length:=by have:=HLEN.out.1;omega
     have hkz:k<(fr.zip nk).length:=by rw[List.length_zip];omega
     obtain⟨hfa,f0⟩:=U1.out wr hbw k hkl;have yT:=Lh (LV (t:=⟨tk,CO,tn⟩) hkz);have hz:(fr.zip nk)[k]=(fr[k],nk[k]):=List.getElem_zip ..;rw[hz] at yT;have Nz:=Lh (fun(W:World) (hW:Below w.heap.size w W)=>Ze.out W hW k hkt);have QX:=(Nz.out wr hbw).1;dsimp only at yT;generalize fr[k]=fk at f0 yT;generalize nk[k]=gk at Nz yT;rw[hfa];clear hfa hz hkz hbr hb3;by_cases hk1:tk=1
     ·subst hk1;have JO:Hid (Ai ((fr.zip nk).take (k+1)) ⟨1,CO,tn⟩=Ai ((fr.zip nk).take k) ⟨1,CO,tn⟩):=Lh (by rw[yT.out,if_neg (by simp)]);clear yT;go_wp2_with fail;go_quiet (fail);go_wp2_with fail;exact⟨⟨k+1,by omega,by go_num,Lh (D5 HM.out _),Lh (by rw[JO.out];exact HN.out)⟩,by simp[intOf];omega⟩
     ·have hk2:(tk==1)=false:=by simpa using hk1
      by_cases hnf:CO=fk
      ·subst hnf;have JO:Hid (Ai ((fr.zip nk).take (k+1)) ⟨tk,CO,tn⟩=gk):=Lh (by rw[yT.out,if_pos ⟨hk1,rfl⟩]);have ZL:(k:Int)<(nk.length:Int):=by omega
       rw[QX];clear yT;go_wp2_with fail;go_quiet (fail);obtain⟨wz,hwz⟩:∃wz,wz=wr.drewN nq:=⟨_,rfl⟩;have hmz:aa.Mod (fun q=>q=TB) wt wz:=by rw[hwz];exact D5 HM.out _
       have kz:wz.heap[TB]?=some (.cells #[.int .i64 tk,.string ⟨(Ai ((fr.zip nk).take k) ⟨tk,CO,tn⟩).toArray⟩,.int .i64 tn] 92 (0,0)):=by rw[hwz];exact HN.out
       have g0:=(Nz.out wz (HQ.out wz hmz).2.2.1).2;have t1:wz.cell? ⟨TB,1,none⟩=some (.string ⟨(Ai ((fr.zip nk).take k) ⟨tk,CO,tn⟩).toArray⟩):=cH kz rfl;have f1:wz.frozen? ⟨TB,1,none⟩=false:=fH kz;rw[<-hwz];have Xk:=Lh (aI hmz kz);clear hwz hmz kz c3 e0 e1 f0 Nz QX;go_wp2_with fail;refine⟨⟨k+1,by omega,by go_num,Lh (Xk.out.1.setCell (p:=⟨TB,1,none⟩) (fun _=>rfl) _),Lh ?_⟩,by simp[intOf];omega⟩;rw[JO.out,aW _ Xk.out.2];rfl
      ·have ZQ:(CO==fk)=false:=by simpa using hnf
       have JO:Hid (Ai ((fr.zip nk).take (k+1)) ⟨tk,CO,tn⟩=Ai ((fr.zip nk).take k) ⟨tk,CO,tn⟩):=Lh (by rw[yT.out,if_neg (fun h=>hnf h.2)]);clear yT QX Nz;go_wp2_with fail;go_quiet (fail);go_wp2_with fail;exact⟨⟨k+1,by omega,by go_num,Lh (D5 HM.out _),Lh (by rw[JO.out];exact HN.out)⟩,by simp[intOf];omega⟩
    ·have hke:k=fr.length:=by omega
     subst hke;rw[List.take_of_length_le (by rw[List.length_zip];have:=HLEN.out.1;omega)] at HN;have yS:=Lh (OA (t:=⟨tk,CO,tn⟩) Nb.out (m:=fr.zip nk) (fun p hp=>HLEN.out.2.2 _ (List.of_mem_zip (show(p.1,p.2)∈_ from hp)).2));have Ga:=Lh (Oz (fr.zip nk) ⟨tk,CO,tn⟩);dsimp only at Ga;generalize Ai (fr.zip nk) ⟨tk,CO,tn⟩=nn at HN yS Ga;have hX:=HX.out;obtain⟨tv,kx,ox⟩:=hX;obtain⟨WH,WI,Tx⟩:=ox.form;rw[List.length_map,List.length_map,List.length_take,show min j terms.length=j by omega] at Tx;subst Tx;have Wy:=(hbr.block (B+2) (gS kx).1).trans kx;have YA:=ox.below hbr;have g3:wr.cell? ⟨B+2,3,none⟩=some (.slice WH j WI):=cH Wy rfl;have t0:wr.cell? ⟨TB,0,none⟩=some (.int .i64 tk):=cH HN.out rfl;have t1:wr.cell? ⟨TB,1,none⟩=some (.string ⟨nn.toArray⟩):=cH HN.out rfl;have t2:wr.cell? ⟨TB,2,none⟩=some (.int .i64 tn):=cH HN.out rfl;have VL:B+2<TB:=Su.out.2;have hTs:TB<wr.heap.size:=(gS HN.out).1;have hBs:B+2<wr.heap.size:=by omega
     have Uq:=Lh (Jp.out wr hbw).terms;have HD:Hid (au wr (fun _=>False) [bH.toD ⟨tk,nn,tn⟩] [.int .i64 tk,.string ⟨nn.toArray⟩,.int .i64 tn]):=Lh (by
      obtain⟨g1,g2,g3,_⟩:=zZ.out;exact au.nM (bH.bI.flat _) ⟨g1,(show(⟨nn.toArray⟩:ByteArray).size<=maxLen by rw[aZ];have:=yS.out;unfold maxLen;omega),g3,trivial⟩)
     have UT:=Lh (aI YA (aI Wy (aI hb3 hbw)));have QQ:(((terms.take j).map (mW (fr.zip nk))).map bH.toD).length=j:=by simp;omega
     clear kx ox Wy YA c3 e0 e1 hbr hb3 hbw HX;go_wp2_with (at_builtin;go_must (refine bR (B:=wr.heap.size) rfl rfl _ _ 61 rfl 92 i0 _ 3 32 Tryz.underlying61 hi hz0 hz1 hz2 rfl (by decide) (.slice WH j WI) (((terms.take j).map (mW (fr.zip nk))).map bH.toD) (bH.toD ⟨tk,nn,tn⟩) [.int .i64 tk,.string ⟨nn.toArray⟩,.int .i64 tn] 92 rfl rfl UT.out.1 HD.out (show B+3<=wr.heap.size by omega) rfl (by rw[QQ];unfold maxLen;omega) (by rw[QQ];omega) ?_);intro ao cap w8 hon Jw;rw[QQ] at hon ⊢;have k8:=(Jw.block (B+2) (by omega)).trans UT.out.2.1;have z8:w8.cell? ⟨B+2,3,none⟩=some (.slice WH j WI):=cH k8 rfl;have f8:w8.frozen? ⟨B+2,3,none⟩=false:=fH k8;have H8:=Lh (aI hon (aI Jw k8));clear hon Jw k8);have m9:aa.Mod (fun k=>k=B+2) w8 (w8.setCell ⟨B+2,3,none⟩ (.slice ao (j+1) cap)):=(aa.Mod.refl (fun k=>k=B+2) w8).setCell (p:=⟨B+2,3,none⟩) (fun _=>rfl) _;have s8:=H8.out.2.1.size;refine⟨⟨j+1,by omega,by go_num,Lh ?_,Lh ⟨.slice ao (j+1) cap,by rw[aW _ H8.out.2.2];rfl,?_⟩⟩,by simp[intOf];omega⟩
     ·exact mg (UT.out.2.2.1.trans (H8.out.2.1.mono (by omega))) m9 (by omega) (fun i e=>by omega)
     ·obtain⟨r,o1,o2⟩:=H8.out.1;have e9:(((terms.take (j+1)).map (mW (fr.zip nk))).map bH.toD)=(((terms.take j).map (mW (fr.zip nk))).map bH.toD)++[bH.toD ⟨tk,nn,tn⟩]:=by rw[tL.out,List.map_append,List.map_append,List.map_cons,Ga.out];rfl
      rw[e9];exact⟨r,o1.kept m9 (fun _ h=>h.elim) (fun k hk e=>by have:=o2 k hk;omega),o2⟩
  ·have ug:j=terms.length:=by omega
   subst ug;rw[List.take_length] at HX;obtain⟨wo,rfl⟩:∃wo,wo=wr:=⟨wr,rfl⟩;obtain⟨tv,hx1,hx2⟩:=HX.out;have Qh:=Lh (aI hx1 hx2);have rD:B+2<wo.heap.size:=(gS hx1).1;have M8:=Lh rD;clear hx1 hx2 HX;go_wp2_with fail;go_loopw [11] (fun ix wq=>∃j:Nat,j<=fl.length/\ix=.int .i64 j/\Hid (aa.Mod (fun k=>k=B+2∨wo.heap.size<=k) wo wq)/\Hid (∃lv,wq.heap[B+2]?=some (.cells #[.int .i64 kind,.string ⟨fname.toArray⟩,.int .i64 n,tv,.slice yb.a binds.length yb.cap,lv] 64 (0,0))/\pM wq F0 64 6 wo.heap.size wq.heap.size lv (((fl.take j).map (fC (fr.zip nk))).map ae.toD))) (fun ix _=>fl.length-(intOf ix).toNat)
   case atStart=>exact⟨0,Nat.zero_le _,rfl,Lh (aa.Mod.refl _ _),Lh ⟨_,Qh.out.1,pM.nil _ _ (fun k hk=>by have:=F8.out k hk;omega) _ _ _ _⟩⟩
   case round=>
    obtain⟨j,hj,rfl,HM,HX⟩:=hrel;have rD:=M8.out;have hb3:Below (B+2) W3 wr:=mg HB.out HM.out (by omega) (fun i e=>by omega);obtain⟨hbw,_,c5,kR⟩:=HOLD.out wr hb3;by_cases hlt:j<fl.length
    ·obtain⟨hla,hlb⟩:=R4.out (by omega);obtain⟨lv,kx,ox⟩:=HX.out;obtain⟨WB,WC,hlv⟩:=ox.form;rw[List.length_map,List.length_map,List.length_take,show min j fl.length=j by omega] at hlv;subst hlv;obtain⟨yk,hyk,vz⟩:=aj.qK (show aj wr F0 (fl.map ae.toD) yl from(Jp.out wr hbw).l) j hlt;have ZM:=F8.out _ hlb;have tL:=Lh (List.take_succ_eq_append_getElem hlt);have fZ:=Lh (fun(W:World) (hW:Below wr.heap.size wr W)=>Aa.out fl[j] (sF.out j hlt) (U3.out j hlt) yk W F0 (hyk.agree ((ag hW).mono (fun k hk=>by have:=F8.out k hk;have:=HM.out.size;omega))) (fun k hk=>by have:=F8.out k hk;have:=HM.out.size;have:=hW.size;omega) (ou.out W (hbw.trans (hW.mono hbw.size))).1 (ou.out W (hbw.trans (hW.mono hbw.size))).2);obtain⟨rg,hrg⟩:∃rg,rg=fC (fr.zip nk) fl[j]:=⟨_,rfl⟩;have Vi:=Lh hrg;have hcz:=HM.out.size;have Xg:=Lh (aI kx ox);generalize fl[j]=g at hyk vz tL fZ hrg Vi;obtain⟨gk,gn,gN,gt,gb,gl⟩:=g;simp only[aC.cells,aK.val,ae.kind,ae.name,ae.n,ae.terms,ae.binds,ae.l] at vz fZ;have HR:Hid (∀W,aa.Mod (fun k=>wo.heap.size<=k) wr W->W.cell? ⟨B+2,5,none⟩=some (.slice WB j WC)/\W.cell? ⟨B,5,none⟩=some (.slice (some ⟨yl.b,yl.o,none⟩) fl.length yl.cap)/\W.cell? ⟨yl.b,yl.o+j*6,none⟩=some (.int .i64 gk)/\W.cell? ⟨yl.b,yl.o+j*6+1,none⟩=some (.string ⟨gn.toArray⟩)/\W.cell? ⟨yl.b,yl.o+j*6+2,none⟩=some (.int .i64 gN)/\W.cell? ⟨yl.b,yl.o+j*6+3,none⟩=some (.slice yk.t.a gt.length yk.t.cap)/\W.cell? ⟨yl.b,yl.o+j*6+4,none⟩=some (.slice yk.b.a gb.length yk.b.cap)/\W.cell? ⟨yl.b,yl.o+j*6+5,none⟩=some (.slice yk.l.a gl.length yk.l.cap)):=Lh (fun W hW=>by
      have h2:=av kx hW (by omega);obtain⟨_,_,h5,_⟩:=HOLD.out W (mg hb3 hW (by omega) (fun i e=>by omega));obtain⟨q0,q1,q2,q3,q4,q5⟩:=ay.six vz;have cx:=fun(q:Nat)=>World.cell?_of_block (a:=⟨yl.b,q,none⟩) (hW.block yl.b (by omega) (by omega));exact⟨cH h2 rfl,by rw[<-hla];exact h5,(cx _).trans q0,(cx _).trans q1,(cx _).trans q2,(cx _).trans q3,(cx _).trans q4,(cx _).trans q5⟩)
     have hjf:(j:Int)<(fl.length:Int):=by omega
     rw[hla] at c5;have HB3:=Lh (aI hb3 (aI hbw kR));clear hyk vz kx ox hrg hb3 hbw hla hlb kR;go_wp2_with fail;clear c5;refine bB 12 (S:=fun W=>aa.Mod (fun k=>wo.heap.size<=k) wr W) (by kernel_rfl) (aa.Mod.refl _ _).drew (fun hHeld=>?_);refine aV (i:=0) rfl hHeld HR ?_;refine aV (i:=1) rfl hHeld HR ?_;refine aV (i:=2) rfl hHeld HR ?_;refine aV (i:=3) rfl hHeld HR ?_;refine aV (i:=4) rfl hHeld HR ?_;refine aV (i:=5) rfl hHeld HR ?_;refine aV (i:=6) rfl hHeld HR ?_;refine aV (i:=7) rfl hHeld HR ?_;refine aV (i:=8) rfl hHeld HR ?_;refine az (rs:=[9]) (by kernel_rfl) (by simp) ?_;refine aY rfl (fun K hK=>?_) aS;go_simp;refine(fZ.out _ (Below.refl _ _).drew).mono ?_;rintro e w6 ⟨yq,rfl,hyq,hb⟩;have B6:=Lh (show Below wr.heap.size wr w6 from(Below.refl _ _).drew.trans hb);have PL:aB w6 (fun k=>F0 k∨(wr.heap.size<=k/\k<w6.heap.size)) (fC (fr.zip nk) (ae.mk gk gn gN gt gb gl)) yq:=hyq;rw[<-Vi.out] at PL ⊢;obtain⟨rk,rn,rN,rt,rb,rl⟩:=rg;simp only[aC.cells,aK.val,ae.kind,ae.name,ae.n,ae.terms,ae.binds,ae.l];have HY:=Lh PL;clear hyq hb PL fZ;go_simp;refine hK.out _ _ (aa.Mod.of_below B6.out) fun hHeld=>?_;clear hK K
     try simp only[Act.put,jZ,j3,j4]
     refine az (rs:=[10]) (by kernel_rfl) (by simp) ?_;refine aY rfl (fun K hK=>?_) aS;go_simp;obtain⟨BR,KH⟩:∃BR,BR=w6.heap.size:=⟨_,rfl⟩;obtain⟨w7,hw7⟩:∃w7,w7=w6.alloc (.cells #[.int .i64 rk,.string ⟨rn.toArray⟩,.int .i64 rN,.slice yq.t.a rt.length yq.t.cap,.slice yq.b.a rb.length yq.b.cap,.slice yq.l.a rl.length yq.l.cap] 64):=⟨_,rfl⟩;have QH:Below w6.heap.size w6 w7:=by rw[hw7];exact aG _ _
     have hrow:w7.heap[BR]?=some (.cells #[.int .i64 rk,.string ⟨rn.toArray⟩,.int .i64 rN,.slice yq.t.a rt.length yq.t.cap,.slice yq.b.a rb.length yq.b.cap,.slice yq.l.a rl.length yq.l.cap] 64 (0,0)):=by rw[hw7,KH];exact heap_alloc_new _ _
     rw[<-KH,<-hw7];have B7:Below wr.heap.size wr w7:=B6.out.trans (QH.mono B6.out.size);have Yr:=(B7.block (B+2) (by omega)).trans Xg.out.1;have YC:=(Xg.out.2.kept (aa.Mod.of_below (S:=fun _=>False) B7) (fun _ h=>h.elim));have hd7:au w7 (fun k=>F0 k∨(wr.heap.size<=k/\k<w7.heap.size)) [ae.toD (.mk rk rn rN rt rb rl)] [.int .i64 rk,.string ⟨rn.toArray⟩,.int .i64 rN,.slice yq.t.a rt.length yq.t.cap,.slice yq.b.a rb.length yq.b.cap,.slice yq.l.a rl.length yq.l.cap]:=au.OI (aB.iff.2 ⟨yq,rfl,(HY.out.agree ((ag QH).mono (fun k hk=>by rcases hk with hk|hk;have:=F8.out k hk;have:=B6.out.size;omega;exact hk.2))).mono (fun k hk=>by rcases hk with hk|hk;exact .inl hk;exact .inr ⟨hk.1,Nat.lt_of_lt_of_le hk.2 QH.size⟩)⟩);have H7:=Lh (aI B7 (aI hrow (aI Yr (aI YC hd7))));clear QH hrow B7 Yr YC hd7 hw7 KH;refine hK.out _ _ ?_ (fun mr=>?_)
     ·exact aa.Mod.of_below H7.out.1
     clear hK K hHeld;clear mr
     try simp only[Act.put,jZ,j3,j4]
     refine az (rs:=[11]) (by kernel_rfl) (by simp) ?_;refine aY rfl (fun K hK=>?_) aS;refine xL (n:=j) rfl _ _ 62 rfl 64 i1 _ 6 104 Tryz.underlying62 hi1 hy0 hy1 hy2 rfl (by decide) (.slice WB j WC) (((fl.take j).map (fC (fr.zip nk))).map ae.toD) (by simp;omega) (ae.toD (.mk rk rn rN rt rb rl)) [.int .i64 rk,.string ⟨rn.toArray⟩,.int .i64 rN,.slice yq.t.a rt.length yq.t.cap,.slice yq.b.a rb.length yq.b.cap,.slice yq.l.a rl.length yq.l.cap] 64 rfl rfl H7.out.2.1 H7.out.2.2.2.1 (by have:=HM.out.size;omega) H7.out.1.size H7.out.2.2.2.2 (ae.width _) (by unfold maxLen;omega) (by omega) ?_;intro ao cap w8 Ya V5;have UL:=av H7.out.2.2.1 V5 (show ¬wo.heap.size<=B+2 by have:=M8.out;omega);have z8:w8.cell? ⟨B+2,5,none⟩=some (.slice WB j WC):=cH UL rfl;have f8:w8.frozen? ⟨B+2,5,none⟩=false:=fH UL;have H8:=Lh (aI Ya (aI V5 UL));clear Ya V5 UL;refine hK.out _ _ ?_ (fun mr=>?_)
     ·exact(aa.Mod.of_below (S:=fun k=>wo.heap.size<=k) H7.out.1).trans H8.out.2.1 (fun _ _ h=>h)
     clear hK K;clear mr
     try simp only[Act.put,jZ,j3,j4]
     refine az (rs:=[12]) (by kernel_rfl) (by simp) ?_;refine eG rfl (by kernel_rfl) (fun K hK=>?_) aS;go_simp;refine hK.out _ _ ?_;clear hK K
     try simp only[Act.put,jZ,j3,j4]
     refine az (rs:=[13]) (by kernel_rfl) (by simp) ?_;refine eG rfl (by kernel_rfl) (fun K hK=>?_) aS;go_simp;refine hK.out _ _ ?_;clear hK K
     try simp only[Act.put,jZ,j3,j4]
     refine eT (by kernel_rfl) ?_ _;clear z8 f8;go_wp2_with fail;have m9:aa.Mod (fun k=>k=B+2) w8 (w8.setCell ⟨B+2,5,none⟩ (.slice ao (j+1) cap)):=(aa.Mod.refl (fun k=>k=B+2) w8).setCell (p:=⟨B+2,5,none⟩) (fun _=>rfl) _;have s9:(w8.setCell ⟨B+2,5,none⟩ (.slice ao (j+1) cap)).heap.size=w8.heap.size:=by simp
     have ZP:aa.Mod (fun k=>k=B+2∨wo.heap.size<=k) wo w8:=(HM.out.trans (aa.Mod.of_below (S:=fun _=>False) H7.out.1) (fun _ _ h=>h.elim)).trans H8.out.2.1 (fun _ _ h=>.inr h);refine⟨⟨j+1,by omega,by go_num,Lh (ZP.trans m9 (fun _ _ h=>.inl h)),Lh ⟨.slice ao (j+1) cap,by rw[aW _ H8.out.2.2];rfl,?_⟩⟩,by simp[intOf];omega⟩;rw[s9,tL.out,List.map_append,List.map_append,List.map_cons,<-Vi.out];exact H8.out.1.kept m9 (fun k hk=>⟨by have:=M8.out;omega,fun h=>by have:=F8.out k h;omega⟩)
    ·have ug:j=fl.length:=by omega
     subst ug;obtain⟨lv,kx,ox⟩:=HX.out;rw[List.take_length] at ox;obtain⟨zl,hzl,hzs⟩:=ox.sl (by rw[ae.bO];simp);rw[aK.val,List.length_map,List.length_map] at hzl;obtain⟨r,o1,o2⟩:=Qh.out.2;have o3:=o1.kept HM.out (fun _ h=>h.elim) (fun k hk e=>by have h1:=o2 k hk;have h2:=o1.fQ hk;rcases e with e|e<;>omega);have hrd:=o3.read (G:=fun k=>B+3<=k/\k<wr.heap.size) (fun _ h=>h.elim) (fun k hk=>⟨o2 k hk,o3.fQ hk⟩) (by rw[bP bH.bI];simp);obtain⟨zt,TF,hts⟩:=bg.cO.1 hrd;rw[List.length_map,List.length_map] at TF;have TF:=(List.cons.inj TF).1;rw[aK.val] at TF;subst hzl TF;have e0:wr.cell? ⟨B+2,0,none⟩=some (.int .i64 kind):=cH kx rfl;have e1:wr.cell? ⟨B+2,1,none⟩=some (.string ⟨fname.toArray⟩):=cH kx rfl;have e2:wr.cell? ⟨B+2,2,none⟩=some (.int .i64 n):=cH kx rfl;have e3:wr.cell? ⟨B+2,3,none⟩=some (.slice zt.a terms.length zt.cap):=cH kx rfl;have e4:wr.cell? ⟨B+2,4,none⟩=some (.slice yb.a binds.length yb.cap):=cH kx rfl;have e5:wr.cell? ⟨B+2,5,none⟩=some (.slice zl.a fl.length zl.cap):=cH kx rfl;have g0:wr.cell? ⟨B+1,0,none⟩=some (.int .i64 0):=cH kR rfl;have g1:wr.cell? ⟨B+1,1,none⟩=some (.string ⟨#[]⟩):=cH kR rfl;have g2:wr.cell? ⟨B+1,2,none⟩=some (.int .i64 0):=cH kR rfl;have g3:wr.cell? ⟨B+1,3,none⟩=some (.slice none 0 0):=cH kR rfl;have g4:wr.cell? ⟨B+1,4,none⟩=some (.slice none 0 0):=cH kR rfl;have g5:wr.cell? ⟨B+1,5,none⟩=some (.slice none 0 0):=cH kR rfl;have h0:wr.frozen? ⟨B+1,0,none⟩=false:=fH kR;have h1:wr.frozen? ⟨B+1,1,none⟩=false:=fH kR;have h2:wr.frozen? ⟨B+1,2,none⟩=false:=fH kR;have h3:wr.frozen? ⟨B+1,3,none⟩=false:=fH kR;have h4:wr.frozen? ⟨B+1,4,none⟩=false:=fH kR;have h5:wr.frozen? ⟨B+1,5,none⟩=false:=fH kR;have HRR:=Lh (aI hbw (aI kR (aI hzs hts)));have Rt:=Lh HM.out.size;clear kx ox o1 o2 o3 hrd hzs hts Qh HM HX kR hb3;go_wp2_with fail;rw[FO];have hfw:=yA (c0:=.int .i64 kind) (c1:=.string ⟨fname.toArray⟩) (c2:=.int .i64 n) (c3:=.slice zt.a terms.length zt.cap) (c4:=.slice yb.a binds.length yb.cap) (c5:=.slice zl.a fl.length zl.cap) HRR.out.2.1;have hmw:=Ca wr (B+1) (.int .i64 kind) (.string ⟨fname.toArray⟩) (.int .i64 n) (.slice zt.a terms.length zt.cap) (.slice yb.a binds.length yb.cap) (.slice zl.a fl.length zl.cap);generalize Ij wr (B+1) (.int .i64 kind) (.string ⟨fname.toArray⟩) (.int .i64 n) (.slice zt.a terms.length zt.cap) (.slice yb.a binds.length yb.cap) (.slice zl.a fl.length zl.cap)=WF at hfw hmw ⊢;have y0:WF.cell? ⟨B+1,0,none⟩=some (.int .i64 kind):=cH hfw rfl;have y1:WF.cell? ⟨B+1,1,none⟩=some (.string ⟨fname.toArray⟩):=cH hfw rfl;have y2:WF.cell? ⟨B+1,2,none⟩=some (.int .i64 n):=cH hfw rfl;have y3:WF.cell? ⟨B+1,3,none⟩=some (.slice zt.a terms.length zt.cap):=cH hfw rfl;have y4:WF.cell? ⟨B+1,4,none⟩=some (.slice yb.a binds.length yb.cap):=cH hfw rfl;have y5:WF.cell? ⟨B+1,5,none⟩=some (.slice zl.a fl.length zl.cap):=cH hfw rfl;refine bodyPost_ret (v:=.agg #[.int .i64 kind,.string ⟨fname.toArray⟩,.int .i64 n,.slice zt.a terms.length zt.cap,.slice yb.a binds.length yb.cap,.slice zl.a fl.length zl.cap]) (by simp[results,Tryz.results29,go_sem,y0,y1,y2,y3,y4,y5]) rfl ?_;have hws:=hmw.size;have hms:=Rt.out;have rD:=M8.out;have rO:=HS.out.1;have Bp:fC (fr.zip nk) (.mk kind fname n terms binds fl)=.mk kind fname n (terms.map (mW (fr.zip nk))) binds (fl.map (fC (fr.zip nk))):=by rw[fC,yD]
     have hbW:Below w.heap.size w WF:=HRR.out.1.trans (hmw.below HRR.out.1.size (fun k hk=>by omega));have hI:=Jp.out w (Below.refl _ _);refine⟨⟨zt,yb,zl⟩,by rw[Bp];simp[aC.cells,ae.kind,ae.name,ae.n,ae.terms,ae.binds,ae.l,aK.val],?_,hbW⟩;rw[Bp];refine⟨hI.kind,hI.name,hI.n,?_,?_,?_⟩
     ·exact(aj.agree HRR.out.2.2.2 (hmw.agree (fun k hk=>⟨hk.2,fun e=>by have:=hk.1;omega⟩))).mono (fun k hk=>.inr ⟨by have:=hk.1;omega,Nat.lt_of_lt_of_le hk.2 hws⟩)
     ·exact(aj.agree hI.binds ((ag hbW).mono PZ.out)).mono (fun k hk=>.inl hk)
     ·exact(aj.agree HRR.out.2.2.1 (hmw.agree (fun k hk=>⟨by rcases hk with h|h;have:=F8.out k h;omega;exact h.2,fun e=>by rcases hk with h|h;have:=F8.out k h;omega;omega⟩))).mono (fun k hk=>by rcases hk with h|h;exact .inl h;exact .inr ⟨by omega,Nat.lt_of_lt_of_le h.2 hws⟩)
end Go.Proofs.YtncnnbmeacpboaaGreatDoor
