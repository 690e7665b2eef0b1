/- Parts of the proof. -/
import Derived.Test.YtncnnbmeacpboaaGreatDoorLWa13
set_option maxHeartbeats 8000000
set_option maxRecDepth 100000
set_option linter.unusedVariables false
set_option linter.unusedSimpArgs false
namespace Go.aa
open Go.RowKit
variable {s:ax} {l:List aV} {X:List Ins} {B sz:Nat} {w W:World} {F:Nat->Prop} {x:D} {cs:List Value} {a b:Int} {α:Type}
theorem CX{P:Program}(w:World)(T K E:TypeId)(b:Nat)(t:List (Int×Value))(k:Int)(z:Value)(hT:P.underlying T=some (.map K E))(hK:P.underlying K=some (.int .i64))(hz:∀w,(zeroValue E).run P w=.ok z w)(h:lq w b t):
  (Instr.lookup T (.map (some b)) (.int .i64 k) true).run P w=.ok (.tuple #[(fV t k).getD z,.bool (fV t k).isSome]) w:=by
 unfold Instr.lookup;rcases nR k z t 0 0 with⟨h1,h2,_⟩|⟨u,j,h1,h2,_⟩
 ·simp only[Sem.run_bind,run_underlying hT,Result.andThen_ok,MapKept.run_getObj_map h,Sem.run_pure,MapKept.run_checkKey (P:=P) hK (k:=.int .i64 k) rfl,MapKept.run_findKey hK h2,hz,h1];rfl
 ·simp only[Sem.run_bind,run_underlying hT,Result.andThen_ok,MapKept.run_getObj_map h,Sem.run_pure,MapKept.run_checkKey (P:=P) hK (k:=.int .i64 k) rfl,MapKept.run_findKey hK h2,h1];rfl
structure ql where
 c:aB
 f:aB
abbrev ql.cells(y:ql)(d:oJ):List Value:=[.int .i64 d.kind,.slice y.c.a d.az.length y.c.cap,.slice y.f.a d.fixes.length y.f.cap]
def lastT:List (Int×Value):=[(1,.string ⟨gT.toArray⟩),(3,.string ⟨j4.toArray⟩)]
theorem CO(k:Int):fV lastT k=(fQ 1 3 k).map (fun s=>.string ⟨s.toArray⟩):=by
 unfold fV lastT fQ;by_cases h1:k=1
 ·subst h1;rfl
 ·by_cases h3:k=3
  ·subst h3;rfl
  ·have e1:((1:Int)==k)=false:=by simpa using fun e=>h1 e.symm
   have e3:((3:Int)==k)=false:=by simpa using fun e=>h3 e.symm
   simp[List.find?_cons,e1,e3,h1,h3]
theorem yY{k:Int}{s:Bs}(h:fQ 1 3 k=some s):s.length<=1000:=by
 unfold fQ at h;split at h
 ·obtain rfl:=Option.some.inj h;decide
 ·split at h
  ·obtain rfl:=Option.some.inj h;decide
  ·cases h
theorem sJ{s:ax}{l:List aV}{X:List Ins}{ahead:Bs}:∀ {q:List (List Int)},(ay s l X ahead q).2=0->(ay s l X ahead q).1=iT s l X ahead q
 |[],_=>rfl
 |p::r,h=>by
  rw[ay] at h ⊢;by_cases h1:(bF s l (dx X p)).2=0
  ·rw[if_neg (by simpa using h1)] at h ⊢;by_cases h2:(ay s l X ahead r).2=0
   ·rw[if_neg (by simpa using h2),sJ h2];simp[iT]
   ·rw[if_pos h2] at h;exact absurd h h2
  ·rw[if_pos h1] at h;exact absurd h h1
theorem ow{ahead:Bs}{q:List (List Int)}(hl:l.length<=1000)(hq:q.length<=1000)(hp:∀p∈q,p.length<=1000)(h:(ay s l X ahead q).2=0):(ay s l X ahead q).1.length<=1001001000:=by
 rw[sJ h];exact Nat.le_trans (o8 hl q hp) (Nat.le_trans (Nat.mul_le_mul_right _ hq) (by decide))
theorem iH{S:Nat->Prop}{a b c:World}(h:Below B a b)(k:Mod S b c)(hB:B<=b.heap.size)(hS:∀i,S i->B<=i):Below B a c:=h.trans (k.below hB hS)
end Go.aa
namespace Go.Proofs.YtncnnbmeacpboaaGreatDoor
open Go.RowKit Go.aa
attribute [local go_sem] Oper.semAt_some
variable {s:ax} {l:List aV} {X:List Ins} {B sz:Nat} {w W:World} {F:Nat->Prop} {x:D} {cs:List Value} {a b:Int} {α:Type}
theorem qJ(s:ax)(x:bH)(l:List aV)(z:aB)(xs:List dz)(xa:aB)(d:oJ)(y:ql)(w:World)(hI:gq)(hs:dh w (·<w.heap.size) s x)(hf:iE s)(hz:ak w (·<w.heap.size) (l.map aV.toD) z)(hl:l.length<=1000)(hfr:∀r∈l,gL r)(hx:ak w (·<w.heap.size) (xs.map dz.toD) xa)(hxl:xs.length<=1000000)(hbl:∀i∈xs,i.binds.length<=2000000)(hc:ak w (·<w.heap.size) (bD d.az) y.c)(hfx:ak w (·<w.heap.size) (bD d.fixes) y.f)(hcl:d.az.length<=1000)(hfl:d.fixes.length<=1000)(hcp:∀p∈d.az,p.length<=1000)(hfp:∀p∈d.fixes,p.length<=1000)(hg:GS w):
  Calls Tryz.prog 15 #[.agg (x.cells s).toArray,.slice z.a l.length z.cap,.slice xa.a xs.length xa.cap,.agg (y.cells d).toArray] w (nG w (fP 1 3 s l (xs.map dz.ins) d)):=by
 obtain⟨R,hR⟩:∃R,R=fP 1 3 s l (xs.map dz.ins) d:=⟨_,rfl⟩;rw[<-hR];obtain⟨BS,Kc⟩:∃BS,BS=w.heap.size:=⟨_,rfl⟩;obtain⟨LB,Qp⟩:∃LB,LB=BS+1:=⟨_,rfl⟩;obtain⟨XB,Mr⟩:∃XB,XB=BS+1+1:=⟨_,rfl⟩;obtain⟨YB,Ig⟩:∃YB,YB=BS+1+1+1:=⟨_,rfl⟩;obtain⟨W1,hW1⟩:∃W1,W1=w.alloc (.cells (x.cells s).toArray 28):=⟨_,rfl⟩;obtain⟨W2,hW2⟩:∃W2,W2=W1.alloc (.cells #[.slice z.a l.length z.cap] 29):=⟨_,rfl⟩;obtain⟨W3,hW3⟩:∃W3,W3=W2.alloc (.cells #[.slice xa.a xs.length xa.cap] 38):=⟨_,rfl⟩;obtain⟨W4,tu⟩:∃W4,W4=W3.alloc (.cells (y.cells d).toArray 45):=⟨_,rfl⟩;have hs1:W1.heap.size=BS+1:=by rw[hW1,Kc];simp
 have hs2:W2.heap.size=BS+2:=by rw[hW2];simp[hs1]
 have hs3:W3.heap.size=BS+3:=by rw[hW3];simp[hs2]
 have hs4:W4.heap.size=BS+4:=by rw[tu];simp[hs3]
 have hb4:Below w.heap.size w W4:=by rw[tu,hW3,hW2,hW1];exact((((Below.refl _ _).alloc (Nat.le_refl _) _).alloc (by simp) _).alloc (by simp;omega) _).alloc (by simp;omega) _
 have g1:W4.heap[BS]?=some (.cells #[.slice x.slots.a s.slots.length x.slots.cap,.slice x.ah.a s.ah.length x.ah.cap,.slice x.people.a s.people.length x.people.cap,.slice x.groups.a s.groups.length x.groups.cap,.slice x.lessons.a s.lessons.length x.lessons.cap] 28 (0,0)):=by rw[tu,ae,if_neg (by omega),hW3,ae,if_neg (by omega),hW2,ae,if_neg (by omega),hW1,ae,if_pos Kc]
 have g2:W4.heap[LB]?=some (.cells #[.slice z.a l.length z.cap] 29 (0,0)):=by rw[tu,ae,if_neg (by omega),hW3,ae,if_neg (by omega),hW2,ae,if_pos (by omega)]
 have g3:W4.heap[XB]?=some (.cells #[.slice xa.a xs.length xa.cap] 38 (0,0)):=by rw[tu,ae,if_neg (by omega),hW3,ae,if_pos (by omega)]
 have g4:W4.heap[YB]?=some (.cells #[.int .i64 d.kind,.slice y.c.a d.az.length y.c.cap,.slice y.f.a d.fixes.length y.f.cap] 45 (0,0)):=by rw[tu,ae,if_pos (by omega)]
 have qj:=Lh (nC s x l z W4 hI (hs.later hb4 hb4.size) hf (hz.later hb4 hb4.size) (by omega) hfr (hg.below hb4).gg);have Kv:Hid (∀W,Below BS w W->dh W (·<BS) s x/\ak W (·<BS) (l.map aV.toD) z/\ak W (·<BS) (xs.map dz.toD) xa/\ak W (·<BS) (bD d.az) y.c/\ak W (·<BS) (bD d.fixes) y.f):=Lh (fun W hW=>by
  rw[Kc] at hW ⊢;exact⟨hs.agree (af hW),hz.agree (af hW),hx.agree (af hW),hc.agree (af hW),hfx.agree (af hW)⟩)
 have wX:=Lh (fun(h0:okF s l=0) (lo OB:Nat) (ahead:Bs) (sets:List (List Int)) (sa:aB) (outs:List Bs) (v0:Value) (W:World) (hb:Below w.heap.size w W) (hE:BP W BS lo s x l z xs xa XB BS LB) (zJ:BS+4<=OB/\OB<lo) (ho:W.heap[OB]?=some (.cells #[v0] 47 (0,0))) (hown:dK W lo (fun _=>False) 9 1 v0 (outs.map aO)) (hol:outs.length<=4000000000) (hss:ak W (·<BS) (bD sets) sa) (hsl:sets.length<=1000) (hpl:∀p∈sets,p.length<=1000) (hodd:sets.any (dn (xs.map dz.ins))=false) (hah:ahead.length<=1000)=>Ho w BS lo s x l z xs xa XB BS LB OB ahead sets sa outs v0 W hI hf hl hfr hbl hxl hg hb h0 hE (by omega) ho hown hol hss hsl hpl hodd hah);have MX:=Lh hl;have HL:=Lh (aI hcl (aI hfl (aI hcp hfp)));have HK:=Lh (aI hb4 (aI g1 (aI g2 (aI g3 (aI g4 (aI hs4 (aI Kc (aI Qp (aI Mr Ig)))))))));have HW:=Lh (aI hW1 (aI hW2 (aI hW3 tu)));obtain⟨ok,hok⟩:∃ok,ok=okF s l:=⟨_,rfl⟩;rw[<-hok] at qj wX;have RS:=Lh hok;have HR:=Lh hR;simp only[bH.cells,aB.val,ql.cells] at qj HW ⊢;have d0:W4.cell? ⟨BS,0,none⟩=some (.slice x.slots.a s.slots.length x.slots.cap):=cH g1 rfl;have d1:W4.cell? ⟨BS,1,none⟩=some (.slice x.ah.a s.ah.length x.ah.cap):=cH g1 rfl;have d2:W4.cell? ⟨BS,2,none⟩=some (.slice x.people.a s.people.length x.people.cap):=cH g1 rfl;have d3:W4.cell? ⟨BS,3,none⟩=some (.slice x.groups.a s.groups.length x.groups.cap):=cH g1 rfl;have d4:W4.cell? ⟨BS,4,none⟩=some (.slice x.lessons.a s.lessons.length x.lessons.cap):=cH g1 rfl;have l0:W4.cell? ⟨LB,0,none⟩=some (.slice z.a l.length z.cap):=cH g2 rfl;clear hs hf hz hfr hx hbl hg hok hR hc hfx hcp hfp g1 g2 g3 g4 hI hs1 hs2 hs3 hs4 hb4 hW1 hW2 hW3 tu;go_enter Tryz.func15,Tryz.ntmps15;go_upto_region 1 with fail
 rw[<-HW.out.1,<-HW.out.2.1,<-HW.out.2.2.1,<-HW.out.2.2.2,<-Kc,<-Ig,<-Mr,<-Qp];clear Kc Qp Mr Ig;go_wp2_with fail;refine qj.out.mono ?_;rintro e w5 ⟨rfl,hb5⟩;have Ur:=HK.out.2.2.2.2.2;have ND:=HK.out.1.trans (hb5.mono HK.out.1.size);have k3:=(hb5.block _ (gS HK.out.2.2.2.1).1).trans HK.out.2.2.2.1;have k4:=(hb5.block _ (gS HK.out.2.2.2.2.1).1).trans HK.out.2.2.2.2.1;have k1:=(hb5.block _ (gS HK.out.2.1).1).trans HK.out.2.1;have k2:=(hb5.block _ (gS HK.out.2.2.1).1).trans HK.out.2.2.1;have H5:=Lh (aI ND (aI k1 (aI k2 (aI k3 (aI k4 hb5.size)))));clear hb5 ND k1 k2 k3 k4 Ur d0 d1 d2 d3 d4 l0 qj;by_cases h0:ok=0;rotate_left
 ·have h1:(ok==0)=false:=by simpa using h0
  have jT:Hid (R=([],ok)):=Lh (by rw[HR.out,fP,<-RS.out,if_pos h0]);go_wp2_with fail;go_ret2;exact nG.nil jT.out H5.out.1
 subst h0;obtain⟨X,hX⟩:∃X,X=xs.map dz.ins:=⟨_,rfl⟩;have J5:Hid (R=match fQ 1 3 d.kind with|none=>([],1)|some last=>if(d.az.any (dn X)||d.fixes.any (dn X))=true then([],1) else if(ay s l X bX d.az).2≠0 then([],(ay s l X bX d.az).2) else if(ay s l X aK d.fixes).2≠0 then([],(ay s l X aK d.fixes).2) else((ay s l X bX d.az).1++((ay s l X aK d.fixes).1++[last]),0)):=Lh (by rw[HR.out,fP,<-RS.out,if_neg (by decide),hX];cases fQ 1 3 d.kind<;>rfl);have EA:Hid (∀(q:List (List Int)) (qa:aB) (W:World),Below w5.heap.size w5 W->ak W (·<W.heap.size) (bD q) qa->q.length<=1000->(∀p∈q,p.length<=1000)->Calls Tryz.prog 35 #[.slice qa.a q.length qa.cap,.func (.func 32) #[] #[.pointer (some ⟨XB,0,none⟩)]] W fun e w'=>e=.returned (.bool (q.any (dn X)))/\Below W.heap.size W w'):=Lh (fun q qa W hW h1 h2 h3=>AO q qa X xa.cap XB xa.a W h1 (by omega) (fun p hp=>by have:=h3 p hp;omega) (by
  have k3:=(hW.block _ (gS H5.out.2.2.2.1).1).trans H5.out.2.2.2.1;rw[show X.length=xs.length by rw[hX,List.length_map]];exact cH k3 rfl))
 have Qa:=Lh hX;clear HR hX;have hmm:= @run_makeMap Tryz.prog;have I7:∀(fn:Fn) (first cap:Array Value) (w:World),(Instr.makeFunc fn first cap).run Tryz.prog w=.ok (.func fn first cap) w:=fun _ _ _ _=>rfl;have hn0:=uT w5;have hp1:=wz (P:=Tryz.prog) (w5.alloc (.map #[] 0)) 80 _ _ w5.heap.size [] 1 (.string ⟨gT.toArray⟩) Tryz.underlying80 Tryz.underlying3 hn0;obtain⟨W7,Ie⟩:∃W7,W7=(w5.alloc (.map #[] 0)).putObj w5.heap.size (.map (fD 0 (dW [] 1 (.string ⟨gT.toArray⟩))).toArray (dW [] 1 (.string ⟨gT.toArray⟩)).length):=⟨_,rfl⟩;have SA:lq W7 w5.heap.size [(1,.string ⟨gT.toArray⟩)]:=by rw[Ie];exact o5 (t:=[(1,.string ⟨gT.toArray⟩)]) (by simp)
 rw[<-Ie] at hp1;have hs7:W7.heap.size=w5.heap.size+1:=by rw[Ie];simp
 have Sg:aa.Mod (fun k=>k=w5.heap.size) w5 W7:=by rw[Ie];exact((aa.Mod.refl (fun k=>k=w5.heap.size) w5).alloc _).trans (aa.Mod.putObj _ _ _) (fun k _ hk=>hk)
 have hp2:=wz (P:=Tryz.prog) W7 80 _ _ w5.heap.size [(1,.string ⟨gT.toArray⟩)] 3 (.string ⟨j4.toArray⟩) Tryz.underlying80 Tryz.underlying3 SA;obtain⟨W8,tN⟩:∃W8,W8=W7.putObj w5.heap.size (.map (fD 0 (dW [(1,.string ⟨gT.toArray⟩)] 3 (.string ⟨j4.toArray⟩))).toArray (dW [(1,.string ⟨gT.toArray⟩)] 3 (.string ⟨j4.toArray⟩)).length):=⟨_,rfl⟩;have SC:lq W8 w5.heap.size lastT:=by rw[tN];exact o5 (t:=lastT) (by omega)
 rw[<-tN] at hp2;have Ke:aa.Mod (fun k=>k=w5.heap.size) w5 W8:=by rw[tN];exact Sg.trans (aa.Mod.putObj _ _ _) (fun k _ hk=>hk)
 have Ja:W8.heap.size=w5.heap.size+1:=by rw[tN];simp[hs7]
 have hlk:=CX (P:=Tryz.prog) W8 80 _ _ w5.heap.size lastT d.kind (.string ⟨#[]⟩) Tryz.underlying80 Tryz.underlying3 Tryz.zeroValue9 SC;rw[CO] at hlk;have Kg:Below w5.heap.size w5 W8:=Ke.below (Nat.le_refl _) (fun k hk=>by omega);have H8:=Lh (aI Kg Ja);have k4:=(Kg.block _ (gS H5.out.2.2.2.2.1).1).trans H5.out.2.2.2.2.1;have y0:W8.cell? ⟨YB,0,none⟩=some (.int .i64 d.kind):=cH k4 rfl;have y1:W8.cell? ⟨YB,1,none⟩=some (.slice y.c.a d.az.length y.c.cap):=cH k4 rfl;have y2:W8.cell? ⟨YB,2,none⟩=some (.slice y.f.a d.fixes.length y.f.cap):=cH k4 rfl;have e1:(⟨gT.toArray⟩:ByteArray)=⟨#[116,104,97,116,32,105,115,32,97,108,108]⟩:=rfl;have e2:(⟨j4.toArray⟩:ByteArray)=⟨#[116,104,101,114,101,32,109,97,121,32,98,101,32,109,111,114,101]⟩:=rfl;rw[e1] at hp1;rw[e2] at hp2;clear hn0 Ie SA hs7 Sg tN SC Ke Ja Kg k4 e1 e2;have MZ:=Lh (fun(s:Bs) (h:fQ 1 3 d.kind=some s)=>yY h);generalize fQ 1 3 d.kind=wl at hlk J5 MZ;cases wl with
 |none=>
  simp only[Option.map_none,Option.getD_none,Option.isSome_none] at hlk;have jT:Hid (R=([],1)):=Lh J5.out;go_wp2_with fail;go_ret2;exact nG.nil jT.out (H5.out.1.trans (H8.out.1.mono H5.out.1.size))
 |some last=>
  simp only[Option.map_some,Option.getD_some,Option.isSome_some] at hlk;simp only at J5;have MW:=Lh (MZ.out last rfl);have OP:Hid (∀W,Below w5.heap.size w5 W->W.cell? ⟨YB,1,none⟩=some (.slice y.c.a d.az.length y.c.cap)/\W.cell? ⟨YB,2,none⟩=some (.slice y.f.a d.fixes.length y.f.cap)/\Below w.heap.size w W/\ak W (·<W.heap.size) (bD d.az) y.c/\ak W (·<W.heap.size) (bD d.fixes) y.f):=Lh (fun W hW=>by
   have k4:=(hW.block _ (gS H5.out.2.2.2.2.1).1).trans H5.out.2.2.2.2.1;have hb:=H5.out.1.trans (hW.mono H5.out.1.size);have Kc:=HK.out.2.2.2.2.2.2.1;have Kh:=Kv.out W (by rw[Kc];exact hb);have hsz:=hb.size;exact⟨cH k4 rfl,cH k4 rfl,hb,Kh.2.2.2.1.mono (fun k hk=>by omega),Kh.2.2.2.2.mono (fun k hk=>by omega)⟩)
  have wO:=Lh (EA.out d.az y.c W8 H8.out.1 (OP.out W8 H8.out.1).2.2.2.1 HL.out.1 HL.out.2.2.1);have JV:=Lh (fun(W:World) (hW:Below w5.heap.size w5 W)=>EA.out d.fixes y.f W hW (OP.out W hW).2.2.2.2 HL.out.2.1 HL.out.2.2.2);obtain⟨b1,hb1⟩:∃b1,b1=d.az.any (dn X):=⟨_,rfl⟩;obtain⟨b2,hb2⟩:∃b2,b2=d.fixes.any (dn X):=⟨_,rfl⟩;rw[<-hb1] at wO J5;rw[<-hb2] at J5;simp only[<-hb2] at JV;have HB1:=Lh hb1;have HB2:=Lh hb2;clear hb1 hb2;go_wp2_with fail;refine wO.out.mono ?_;rintro e w9 ⟨rfl,FH⟩;have H9:=Lh (H8.out.1.trans (FH.mono H8.out.1.size));clear FH y0 y1 y2 hlk hp1 hp2 wO;cases b1;rotate_left
  ·have jT:Hid (R=([],1)):=Lh (J5.out.trans (if_pos rfl));go_wp2_with fail;go_ret2;exact nG.nil jT.out (H5.out.1.trans (H9.out.mono H5.out.1.size))
  obtain⟨y1,y2,_⟩:=OP.out w9 H9.out;have JV:=Lh (JV.out w9 H9.out);go_wp2_with fail;refine JV.out.mono ?_;rintro e jU ⟨rfl,oU⟩;have vz:=Lh (H9.out.trans (oU.mono H9.out.size));clear oU y1 y2 JV;cases b2;rotate_left
  ·have jT:Hid (R=([],1)):=Lh (J5.out.trans (if_pos rfl));go_wp2_with fail;go_ret2;exact nG.nil jT.out (H5.out.1.trans (vz.out.mono H5.out.1.size))
  have Mi:=Lh (J5.out.trans (if_neg (by decide)));obtain⟨OB,zJ⟩:∃OB,OB=jU.heap.size:=⟨_,rfl⟩;obtain⟨Em,FC⟩:∃Em,Em=jU.alloc (.cells #[.slice none 0 0] 47):=⟨_,rfl⟩;have NY:Em.heap.size=OB+1:=by rw[FC,zJ];simp
  have Ct:Below w5.heap.size w5 Em:=vz.out.trans ((show Below jU.heap.size jU Em by rw[FC];exact(Below.refl _ _).alloc (Nat.le_refl _) _).mono vz.out.size);have k20:Em.heap[OB]?=some (.cells #[.slice none 0 0] 47 (0,0)):=by rw[FC,ae,if_pos zJ]
  have hsk:=HK.out.2.2.2.2.2;have hs5:=H5.out.2.2.2.2.2;have I9:=vz.out.size;have xN:Below w.heap.size w Em:=H5.out.1.trans (Ct.mono H5.out.1.size);have Kh:=Kv.out Em (by rw[hsk.2.1];exact xN);have hE20:BP Em BS (OB+1) s x l z xs xa XB BS LB:=⟨Kh.1,Kh.2.1,Kh.2.2.1,(Ct.block _ (gS H5.out.2.2.2.1).1).trans H5.out.2.2.2.1,(Ct.block _ (gS H5.out.2.1).1).trans H5.out.2.1,(Ct.block _ (gS H5.out.2.2.1).1).trans H5.out.2.2.1,by omega⟩;have QN:∀q:List (List Int),q.any (dn X)=q.any (dn (xs.map dz.ins)):=fun q=>by rw[Qa.out]
  have J4:=Lh (wX.out (by first|rfl|trivial) (OB+1) OB bX d.az y.c [] (.slice none 0 0) Em xN hE20 (by omega) k20 (dK.nil _ _ _ _ _ (fun _ h=>h.elim)) (by simp) Kh.2.2.2.1 HL.out.1 HL.out.2.2.1 (by rw[<-QN];exact HB1.out.symm) (by decide));rw[<-Qa.out] at J4;have M8:Hid (∀(W:World) (outs:List Bs) (v0:Value),aa.Mod (fun k=>k=OB∨OB+1<=k) Em W->W.heap[OB]?=some (.cells #[v0] 47 (0,0))->dK W (OB+1) (fun _=>False) 9 1 v0 (outs.map aO)->outs.length<=4000000000->Calls Tryz.prog 36 #[.string ⟨aK.toArray⟩,.slice y.f.a d.fixes.length y.f.cap,.pointer (some ⟨XB,0,none⟩),.pointer (some ⟨BS,0,none⟩),.pointer (some ⟨LB,0,none⟩),.pointer (some ⟨OB,0,none⟩)] W (R4 W OB (OB+1) outs (ay s l X aK d.fixes))):=Lh (fun W outs v0 hM hk ho hol=>by
   have hbW:=iH xN hM (by omega) (fun i hi=>by omega);have Qz:=Kv.out W (by rw[hsk.2.1];exact hbW);rw[Qa.out];exact wX.out (by first|rfl|trivial) (OB+1) OB aK d.fixes y.f outs v0 W hbW (hE20.kept hM (by omega) (by omega) (by omega) (by omega)) (by omega) hk ho hol Qz.2.2.2.2 HL.out.2.1 HL.out.2.2.2 (by rw[<-QN];exact HB2.out.symm) (by decide))
  have RG:=Lh ((Ct.block _ (gS H5.out.2.2.2.2.1).1).trans H5.out.2.2.2.2.1);have JQ:=Lh (aI xN (aI NY (show YB<OB/\BS<=OB/\w.heap.size=BS by omega)));obtain⟨S1,hS1⟩:∃S1,S1=ay s l X bX d.az:=⟨_,rfl⟩;obtain⟨S2,hS2⟩:∃S2,S2=ay s l X aK d.fixes:=⟨_,rfl⟩;have KH:Hid (S1.2=0->S1.1.length<=1001001000):=Lh (by rw[hS1];exact fun h=>ow MX.out HL.out.1 HL.out.2.2.1 h);have BM:Hid (S2.2=0->S2.1.length<=1001001000):=Lh (by rw[hS2];exact fun h=>ow MX.out HL.out.2.1 HL.out.2.2.2 h);rw[<-hS1] at J4 Mi;rw[<-hS2] at M8 Mi;have PO:=Lh zJ;have P6:=Lh FC;have y1:Em.cell? ⟨YB,1,none⟩=some (.slice y.c.a d.az.length y.c.cap):=cH RG.out rfl;have hent:∀args w,(callFunc 36 args).run Tryz.prog w=.ok (.enter 36 args) w:=enters_of Tryz.func36 (by kernel_rfl) rfl;have R8:(⟨bX.toArray⟩:ByteArray)=⟨#[116,104,101,115,101,32,99,97,110,39,116,32,98,101,32,116,111,103,101,116,104,101,114,58]⟩:=rfl;have R9:(⟨aK.toArray⟩:ByteArray)=⟨#[119,105,116,104,111,117,116,32,116,104,101,115,101,32,116,104,101,114,101,32,105,115,32,97,32,119,101,101,107,58]⟩:=rfl;rw[R8] at J4;rw[R9] at M8;clear NY Ct k20 hsk hs5 I9 xN Kh hE20 QN hS1 hS2 zJ FC R8 R9 wX EA OP;go_upto_region 9 with fail
  rw[<-P6.out,<-PO.out];go_wp2_with fail;refine J4.out.mono ?_;rintro e TC ⟨rfl,IP,I8⟩;rw[List.nil_append] at I8;obtain⟨l1,Sa⟩:=S1;obtain⟨l2,Sb⟩:=S2;simp only at I8 Mi KH BM M8 ⊢;have ky:=ai RG.out IP (by have:=JQ.out.2.2.1;omega);have Oq:=Lh (aI IP (aI I8 ky));have NA:=iH JQ.out.1 IP (by have:=JQ.out;omega) (fun i hi=>by have:=JQ.out;omega);have JU:=Lh NA;clear y1 IP I8 NA J4;by_cases Lt:Sa=0;rotate_left
  ·have NL:(Sa==0)=false:=by simpa using Lt
   have jT:=Lh (Mi.out.trans (if_pos Lt));clear ky;go_wp2_with fail;go_ret2;exact nG.nil jT.out JU.out
  subst Lt;have RU:=Lh (Mi.out.trans (if_neg (by decide)));obtain⟨v1,hv1,hw1⟩:=Oq.out.2.1 rfl;have M9:=Lh (M8.out TC l1 v1 Oq.out.1 hv1 hw1 (by have:=KH.out (by first|rfl|trivial);omega));have y2:TC.cell? ⟨YB,2,none⟩=some (.slice y.f.a d.fixes.length y.f.cap):=cH ky rfl;clear ky hv1 hw1 M8 Mi;go_wp2_with fail;refine M9.out.mono ?_;rintro e TD ⟨rfl,IQ,Lv⟩;simp only at Lv ⊢;have NB:=iH JU.out IQ (by have:=JQ.out;have:=Oq.out.1.size;omega) (fun i hi=>by have:=JQ.out;omega);have Po:=Lh (aI IQ (aI Lv NB));have PU:=Lh (Nat.le_trans Oq.out.1.size IQ.size);clear y2 IQ Lv NB M9;by_cases Cw:Sb=0;rotate_left
  ·have NL:(Sb==0)=false:=by simpa using Cw
   have jT:=Lh (RU.out.trans (if_pos Cw));go_wp2_with fail;go_ret2;exact nG.nil jT.out Po.out.2.2
  subst Cw;have zm:=Lh (RU.out.trans (if_neg (by decide)));obtain⟨v2,hv2,hw2⟩:=Po.out.2.1 rfl;obtain⟨va,wG,Jc⟩:=hw2.form;rw[List.length_map] at Jc;obtain⟨OL,IU⟩:∃OL,OL=l1++l2:=⟨_,rfl⟩;rw[<-IU] at Jc hw2;have Cx:OL.length<=2002002000:=by rw[IU,List.length_append];have:=KH.out (by first|rfl|trivial);have:=BM.out (by first|rfl|trivial);omega
  obtain⟨on,hon⟩:∃on,on=OL.length:=⟨_,rfl⟩;rw[<-hon] at Jc Cx;subst Jc;obtain⟨i0,hi,hz0,hz1,hz2⟩:=info_parts lU;have c0:TD.cell? ⟨OB,0,none⟩=some (.slice va on wG):=cH hv2 rfl;have HO:=Lh (aI hw2 (aI hon Cx));have PQ:=Lh IU;clear hv2 hw2 hon Cx IU;go_wp2_with (at_builtin;go_must (refine aL (B:=TD.heap.size) rfl rfl _ _ 47 rfl 9 i0 _ 1 16 Tryz.underlying47 hi hz0 hz1 hz2 rfl (by decide) (.slice va on wG) (OL.map aO) (aO last) [.string ⟨last.toArray⟩] 9 rfl rfl HO.out.1 (jJ (by have:=MW.out;unfold maxLen;omega)) (by have:=PU.out;have:=JQ.out.2.1;omega) rfl (by rw[List.length_map,<-HO.out.2.1];have:=HO.out.2.2;unfold maxLen;omega) (by rw[List.length_map,<-HO.out.2.1];have:=HO.out.2.2;omega) ?_);intro ao cap Vx FP NC;rw[List.length_map,<-HO.out.2.1] at FP ⊢;have Rt:=Lh (aI FP NC);clear FP NC);go_ret2;refine⟨_,by rw[zm.out];rfl,?_,Po.out.2.2.trans (Rt.out.2.mono (by have:=JQ.out;omega))⟩;rw[zm.out];obtain⟨x0,hx0,hx1⟩:=Rt.out.1.onto.sl (by rw[show OL.map aO++[aO last]=(OL++[last]).map aO by simp,bC aZ];simp);rw[show OL.map aO++[aO last]=(l1++(l2++[last])).map aO by rw[PQ.out];simp] at hx0 hx1;exact⟨x0,by rw[aB.val,List.length_map] at hx0;rw[hx0];rfl,hx1⟩
end Go.Proofs.YtncnnbmeacpboaaGreatDoor
namespace Go.aa
open Go.RowKit
variable {s:ax} {l:List aV} {X:List Ins} {B sz:Nat} {w W:World} {F:Nat->Prop} {x:D} {cs:List Value} {a b:Int} {α:Type}
def bU:ax:={ slots:=[⟨[109,111,110,49],0,0⟩],ah:=[⟨[114],0,0,[]⟩],people:=[],groups:=[],lessons:=[⟨[109,97,116,104],[],[]⟩]}
def jZ:aV:=⟨[103,111,110,101],true,0,[⟨[108],1⟩,⟨[115],2⟩],.mk 13 [] 0 [] [] [.mk 3 [] 0 [⟨2,[108],0⟩,⟨2,[115],0⟩] [] [],.mk 9 [60] 0 [⟨4,[115],0⟩,⟨1,[],3⟩] [] []]⟩
theorem au.fC{r:List D}{ds:List Value}(h:aM w F x cs)(k:au w F r ds):au w F (x::r) (cs++ds):=by rw[au];exact⟨cs,ds,rfl,h,k⟩
theorem au.fO(h:aM w F x cs):au w F [x] cs:=by rw[au];exact⟨cs,[],(List.append_nil _).symm,h,by rw[au]⟩
def C7(W:World)(g o:Nat)(v0 v1 v2 v3 v4:Value):World:=((((W.setCell ⟨g,o,none⟩ v0).setCell ⟨g,o+1,none⟩ v1).setCell ⟨g,o+2,none⟩ v2).setCell ⟨g,o+3,none⟩ v3).setCell ⟨g,o+4,none⟩ v4
theorem uV{g:Nat}{e:TypeId}{c0 c1 c2 c3 c4:Value}(h:W.heap[g]?=some (.cells #[c0,c1,c2,c3,c4] e (0,0)))(v0 v1 v2 v3 v4:Value):(C7 W g 0 v0 v1 v2 v3 v4).heap[g]?=some (.cells #[v0,v1,v2,v3,v4] e (0,0)):=by
 unfold C7;exact aC _ (aC _ (aC _ (aC _ (aC _ h))))
theorem yE(W:World)(g o:Nat)(v0 v1 v2 v3 v4:Value):Mod (fun k=>k=g) W (C7 W g o v0 v1 v2 v3 v4):=by
 unfold C7;exact(((((Mod.refl (fun k=>k=g) _).setCell (p:=⟨g,o,none⟩) (fun _=>rfl) _).setCell (p:=⟨g,o+1,none⟩) (fun _=>rfl) _).setCell (p:=⟨g,o+2,none⟩) (fun _=>rfl) _).setCell (p:=⟨g,o+3,none⟩) (fun _=>rfl) _).setCell (p:=⟨g,o+4,none⟩) (fun _=>rfl) _
end Go.aa
namespace Go.Proofs.YtncnnbmeacpboaaGreatDoor
open Go.RowKit Go.aa
attribute [local go_sem] Oper.semAt_some
variable {s:ax} {l:List aV} {X:List Ins} {B sz:Nat} {w W:World} {F:Nat->Prop} {x:D} {cs:List Value} {a b:Int} {α:Type}
theorem vN(w:World):Calls Tryz.prog 20 #[] w fun e w'=>∃(x:bH) (z:aB),e=.returned (.tuple #[.agg (x.cells bU).toArray,.slice z.a 1 z.cap])/\dh w' (·<w'.heap.size) bU x/\ak w' (·<w'.heap.size) ([jZ].map aV.toD) z/\Below w.heap.size w w':=by
 obtain⟨BR,K8⟩:∃BR,BR=w.heap.size:=⟨_,rfl⟩;obtain⟨W0,hW0⟩:∃W0,W0=w.alloc (.cells #[.slice none 0 0,.slice none 0 0,.slice none 0 0,.slice none 0 0,.slice none 0 0] 28):=⟨_,rfl⟩;have hb0:Below w.heap.size w W0:=by rw[hW0];exact(Below.refl _ _).alloc (Nat.le_refl _) _
 have k0:W0.heap[BR]?=some (.cells #[.slice none 0 0,.slice none 0 0,.slice none 0 0,.slice none 0 0,.slice none 0 0] 28 (0,0)):=by rw[hW0,ae,if_pos K8]
 have hl0:BR<W0.heap.size:=(gS k0).1;obtain⟨A1,hA1⟩:∃A1,A1=W0.heap.size:=⟨_,rfl⟩;obtain⟨A2,hA2⟩:∃A2,A2=W0.heap.size+1:=⟨_,rfl⟩;obtain⟨A3,hA3⟩:∃A3,A3=W0.heap.size+1+1:=⟨_,rfl⟩;obtain⟨A4,Qi⟩:∃A4,A4=W0.heap.size+1+1+1:=⟨_,rfl⟩;obtain⟨W1,hW1⟩:∃W1,W1=(((W0.alloc (.cells #[.string ⟨#[109,111,110,49]⟩,.int .i64 0,.int .i64 0] 86)).alloc (.cells #[.string ⟨#[114]⟩,.int .i64 0,.int .i64 0,.slice none 0 0] 88)).alloc (.cells #[.string ⟨#[109,97,116,104]⟩,.slice none 0 0,.slice none 0 0] 90)).alloc (.cells #[.slice (some ⟨W0.heap.size,0,none⟩) 1 1,.slice (some ⟨W0.heap.size+1,0,none⟩) 1 1,.slice none 0 0,.slice none 0 0,.slice (some ⟨W0.heap.size+1+1,0,none⟩) 1 1] 28):=⟨_,rfl⟩;have Q0:W1.heap.size=W0.heap.size+4:=by rw[hW1];simp
 have kA1:W1.heap[A1]?=some (.cells #[.string ⟨#[109,111,110,49]⟩,.int .i64 0,.int .i64 0] 86 (0,0)):=by
  rw[hW1,hA1];simp only[ae,World.size_alloc]
  repeat(first|rw[if_pos trivial]|rw[if_pos (by omega)]|rw[if_neg (by omega)])
 have kA2:W1.heap[A2]?=some (.cells #[.string ⟨#[114]⟩,.int .i64 0,.int .i64 0,.slice none 0 0] 88 (0,0)):=by
  rw[hW1,hA2];simp only[ae,World.size_alloc]
  repeat(first|rw[if_pos trivial]|rw[if_pos (by omega)]|rw[if_neg (by omega)])
 have kA3:W1.heap[A3]?=some (.cells #[.string ⟨#[109,97,116,104]⟩,.slice none 0 0,.slice none 0 0] 90 (0,0)):=by
  rw[hW1,hA3];simp only[ae,World.size_alloc]
  repeat(first|rw[if_pos trivial]|rw[if_pos (by omega)]|rw[if_neg (by omega)])
 have Q6:W1.heap[A4]?=some (.cells #[.slice (some ⟨W0.heap.size,0,none⟩) 1 1,.slice (some ⟨W0.heap.size+1,0,none⟩) 1 1,.slice none 0 0,.slice none 0 0,.slice (some ⟨W0.heap.size+1+1,0,none⟩) 1 1] 28 (0,0)):=by
  rw[hW1,Qi];simp only[ae,World.size_alloc]
  repeat(first|rw[if_pos trivial]|rw[if_pos (by omega)]|rw[if_neg (by omega)])
 have hbW1:Below W0.heap.size W0 W1:=by rw[hW1];exact(((((Below.refl _ _).alloc (by simp) _).alloc (by simp<;>omega) _).alloc (by simp<;>omega) _).alloc (by simp<;>omega) _)
 rw[<-hA3,<-hA2,<-hA1] at Q6;have QC:A1<W1.heap.size/\A2<W1.heap.size/\A3<W1.heap.size/\A4<W1.heap.size:=by omega
 obtain⟨C1,OV⟩:∃C1,C1=W1.heap.size:=⟨_,rfl⟩;obtain⟨C2,hC2⟩:∃C2,C2=W1.heap.size+1:=⟨_,rfl⟩;obtain⟨W2,hW2⟩:∃W2,W2=(W1.alloc (.cells #[.int .i64 2,.string ⟨#[108]⟩,.int .i64 0,.int .i64 2,.string ⟨#[115]⟩,.int .i64 0] 92)).alloc (.cells #[.int .i64 3,.string ⟨#[]⟩,.int .i64 0,.slice (some ⟨W1.heap.size,0,none⟩) 2 2,.slice none 0 0,.slice none 0 0] 64):=⟨_,rfl⟩;have Q3:W2.heap.size=W1.heap.size+2:=by rw[hW2];simp
 have SK:W2.heap[C1]?=some (.cells #[.int .i64 2,.string ⟨#[108]⟩,.int .i64 0,.int .i64 2,.string ⟨#[115]⟩,.int .i64 0] 92 (0,0)):=by
  rw[hW2,OV];simp only[ae,World.size_alloc]
  repeat(first|rw[if_pos trivial]|rw[if_pos (by omega)]|rw[if_neg (by omega)])
 have O9:W2.heap[C2]?=some (.cells #[.int .i64 3,.string ⟨#[]⟩,.int .i64 0,.slice (some ⟨W1.heap.size,0,none⟩) 2 2,.slice none 0 0,.slice none 0 0] 64 (0,0)):=by
  rw[hW2,hC2];simp only[ae,World.size_alloc]
  repeat(first|rw[if_pos trivial]|rw[if_pos (by omega)]|rw[if_neg (by omega)])
 have hbW2:Below W1.heap.size W1 W2:=by rw[hW2];exact(((Below.refl _ _).alloc (by simp) _).alloc (by simp<;>omega) _)
 rw[<-OV] at O9;have QD:C1<W2.heap.size/\C2<W2.heap.size:=by omega
 obtain⟨D1,hD1⟩:∃D1,D1=W2.heap.size:=⟨_,rfl⟩;obtain⟨D2,hD2⟩:∃D2,D2=W2.heap.size+1:=⟨_,rfl⟩;obtain⟨W3,hW3⟩:∃W3,W3=(W2.alloc (.cells #[.int .i64 4,.string ⟨#[115]⟩,.int .i64 0,.int .i64 1,.string ⟨#[]⟩,.int .i64 3] 92)).alloc (.cells #[.int .i64 9,.string ⟨#[60]⟩,.int .i64 0,.slice (some ⟨W2.heap.size,0,none⟩) 2 2,.slice none 0 0,.slice none 0 0] 64):=⟨_,rfl⟩;have Q4:W3.heap.size=W2.heap.size+2:=by rw[hW3];simp
 have SL:W3.heap[D1]?=some (.cells #[.int .i64 4,.string ⟨#[115]⟩,.int .i64 0,.int .i64 1,.string ⟨#[]⟩,.int .i64 3] 92 (0,0)):=by
  rw[hW3,hD1];simp only[ae,World.size_alloc]
  repeat(first|rw[if_pos trivial]|rw[if_pos (by omega)]|rw[if_neg (by omega)])
 have Pb:W3.heap[D2]?=some (.cells #[.int .i64 9,.string ⟨#[60]⟩,.int .i64 0,.slice (some ⟨W2.heap.size,0,none⟩) 2 2,.slice none 0 0,.slice none 0 0] 64 (0,0)):=by
  rw[hW3,hD2];simp only[ae,World.size_alloc]
  repeat(first|rw[if_pos trivial]|rw[if_pos (by omega)]|rw[if_neg (by omega)])
 have Cu:Below W2.heap.size W2 W3:=by rw[hW3];exact(((Below.refl _ _).alloc (by simp) _).alloc (by simp<;>omega) _)
 rw[<-hD1] at Pb;have QE:D1<W3.heap.size/\D2<W3.heap.size:=by omega
 obtain⟨E1,hE1⟩:∃E1,E1=W3.heap.size:=⟨_,rfl⟩;obtain⟨E2,hE2⟩:∃E2,E2=W3.heap.size+1:=⟨_,rfl⟩;obtain⟨E3,Ql⟩:∃E3,E3=W3.heap.size+1+1:=⟨_,rfl⟩;obtain⟨W4,tu⟩:∃W4,W4=((W3.alloc (.cells #[.string ⟨#[108]⟩,.int .i64 1,.string ⟨#[115]⟩,.int .i64 2] 94)).alloc (.cells #[.int .i64 3,.string ⟨#[]⟩,.int .i64 0,.slice (some ⟨C1,0,none⟩) 2 2,.slice none 0 0,.slice none 0 0,.int .i64 9,.string ⟨#[60]⟩,.int .i64 0,.slice (some ⟨D1,0,none⟩) 2 2,.slice none 0 0,.slice none 0 0] 64)).alloc (.cells #[.string ⟨#[103,111,110,101]⟩,.bool true,.int .i64 0,.slice (some ⟨W3.heap.size,0,none⟩) 2 2,.int .i64 13,.string ⟨#[]⟩,.int .i64 0,.slice none 0 0,.slice none 0 0,.slice (some ⟨W3.heap.size+1,0,none⟩) 2 2] 66):=⟨_,rfl⟩;have Q5:W4.heap.size=W3.heap.size+3:=by rw[tu];simp
 have SN:W4.heap[E1]?=some (.cells #[.string ⟨#[108]⟩,.int .i64 1,.string ⟨#[115]⟩,.int .i64 2] 94 (0,0)):=by
  rw[tu,hE1];simp only[ae,World.size_alloc]
  repeat(first|rw[if_pos trivial]|rw[if_pos (by omega)]|rw[if_neg (by omega)])
 have SQ:W4.heap[E2]?=some (.cells #[.int .i64 3,.string ⟨#[]⟩,.int .i64 0,.slice (some ⟨C1,0,none⟩) 2 2,.slice none 0 0,.slice none 0 0,.int .i64 9,.string ⟨#[60]⟩,.int .i64 0,.slice (some ⟨D1,0,none⟩) 2 2,.slice none 0 0,.slice none 0 0] 64 (0,0)):=by
  rw[tu,hE2];simp only[ae,World.size_alloc]
  repeat(first|rw[if_pos trivial]|rw[if_pos (by omega)]|rw[if_neg (by omega)])
 have Q8:W4.heap[E3]?=some (.cells #[.string ⟨#[103,111,110,101]⟩,.bool true,.int .i64 0,.slice (some ⟨W3.heap.size,0,none⟩) 2 2,.int .i64 13,.string ⟨#[]⟩,.int .i64 0,.slice none 0 0,.slice none 0 0,.slice (some ⟨W3.heap.size+1,0,none⟩) 2 2] 66 (0,0)):=by
  rw[tu,Ql];simp only[ae,World.size_alloc]
  repeat(first|rw[if_pos trivial]|rw[if_pos (by omega)]|rw[if_neg (by omega)])
 have FJ:Below W3.heap.size W3 W4:=by rw[tu];exact((((Below.refl _ _).alloc (by simp) _).alloc (by simp<;>omega) _).alloc (by simp<;>omega) _)
 rw[<-hE2,<-hE1] at Q8;have QF:E1<W4.heap.size/\E2<W4.heap.size/\E3<W4.heap.size:=by omega
 have zK:Below W1.heap.size W1 W4:=(hbW2.trans (Cu.mono hbW2.size)).trans (FJ.mono (Nat.le_trans hbW2.size Cu.size));have Le:Below W2.heap.size W2 W4:=Cu.trans (FJ.mono Cu.size);have IY:Below w.heap.size w W4:=(hb0.trans (hbW1.mono hb0.size)).trans (zK.mono (Nat.le_trans hb0.size hbW1.size));have hr4:W4.heap[BR]?=some (.cells #[.slice none 0 0,.slice none 0 0,.slice none 0 0,.slice none 0 0,.slice none 0 0] 28 (0,0)):=(zK.block BR (by omega)).trans ((hbW1.block BR hl0).trans k0);have Tc:=(zK.block A1 (by omega)).trans kA1;have Td:=(zK.block A2 (by omega)).trans kA2;have Te:=(zK.block A3 (by omega)).trans kA3;have Tf:=(zK.block A4 (by omega)).trans Q6;have Tg:=(Le.block C1 (by omega)).trans SK;have UR:=(Le.block C2 (by omega)).trans O9;have Ti:=(FJ.block D1 (by omega)).trans SL;have UT:=(FJ.block D2 (by omega)).trans Pb;have HF:Hid (∀W,aa.Mod (fun k=>k=BR) W4 W->dh W (·<W.heap.size) bU ⟨⟨some ⟨A1,0,none⟩,A1,0,1⟩,⟨some ⟨A2,0,none⟩,A2,0,1⟩,⟨none,0,0,0⟩,⟨none,0,0,0⟩,⟨some ⟨A3,0,none⟩,A3,0,1⟩⟩/\au W (·<W.heap.size) ([jZ].map aV.toD) [.string ⟨#[103,111,110,101]⟩,.bool true,.int .i64 0,.slice (some ⟨E1,0,none⟩) 2 2,.int .i64 13,.string ⟨#[]⟩,.int .i64 0,.slice none 0 0,.slice none 0 0,.slice (some ⟨E2,0,none⟩) 2 2]):=Lh (fun W hM=>by
  have hsz:=hM.size;have hst:∀b:Bs,b.length<=4->(⟨b.toArray⟩:ByteArray).size<=maxLen:=fun b hb=>by rw[aS];unfold maxLen;omega
  have hi:∀n:Int,0<=n->n<=13->(Lit.int .i64 n).wf=true:=fun n h1 h2=>jh.wf (by unfold jh;omega);have UU:=ai Tc hM (by omega);have UW:=ai Td hM (by omega);have UX:=ai Te hM (by omega);have UY:=ai Tg hM (by omega);have UZ:=ai Ti hM (by omega);have U0:=ai SN hM (by omega);have U1:=ai SQ hM (by omega);have dI:∀n:Int,0<=n->n<=13->aM W (·<W.heap.size) (.int .i64 n) [.int .i64 n]:=fun n h1 h2=>by rw[aM];exact⟨rfl,hi n h1 h2⟩
  have dS:∀b:Bs,b.length<=4->aM W (·<W.heap.size) (.str ⟨b.toArray⟩) [.string ⟨b.toArray⟩]:=fun b hb=>by rw[aM];exact⟨rfl,hst b hb⟩
  have dN:aM W (·<W.heap.size) (.sl []) [.slice none 0 0]:=aM.bB.2 ⟨⟨none,0,0,0⟩,rfl,ak.nil (Nat.zero_le _) _ _ _⟩;have lt:∀k,k<W4.heap.size->k<W.heap.size:=fun k hk=>by omega
  have s1:ak W (·<W.heap.size) (bU.slots.map l6.toD) ⟨some ⟨A1,0,none⟩,A1,0,1⟩:=ak.lit UU (au.fO (x:=l6.toD ⟨[109,111,110,49],0,0⟩) (by rw[l6.toD,aM];exact au.fC (dS _ (by decide)) (au.fC (dI 0 (by decide) (by decide)) (au.fC (dI 0 (by decide) (by decide)) rfl)))) (lt _ (by omega)) (by decide) (by decide);have s2:ak W (·<W.heap.size) (bU.ah.map nE.toD) ⟨some ⟨A2,0,none⟩,A2,0,1⟩:=ak.lit UW (au.fO (x:=nE.toD ⟨[114],0,0,[]⟩) (by rw[nE.toD,aM];exact au.fC (dS _ (by decide)) (au.fC (dI 0 (by decide) (by decide)) (au.fC (dI 0 (by decide) (by decide)) (au.fC dN rfl))))) (lt _ (by omega)) (by decide) (by decide);have s3:ak W (·<W.heap.size) (bU.lessons.map nH.toD) ⟨some ⟨A3,0,none⟩,A3,0,1⟩:=ak.lit UX (au.fO (x:=nH.toD ⟨[109,97,116,104],[],[]⟩) (by rw[nH.toD,aM];exact au.fC (dS _ (by decide)) (au.fC dN (au.fC dN rfl)))) (lt _ (by omega)) (by decide) (by decide);have dT:∀(k:Int) (b:Bs) (n:Int),0<=k->k<=13->b.length<=4->0<=n->n<=13->aM W (·<W.heap.size) (bV.toD ⟨k,b,n⟩) [.int .i64 k,.string ⟨b.toArray⟩,.int .i64 n]:=fun k b n h1 h2 h3 h4 h5=>by rw[bV.toD,aM];exact au.fC (dI k h1 h2) (au.fC (dS b h3) (au.fC (dI n h4 h5) rfl))
  have t1:ak W (·<W.heap.size) ([(⟨2,[108],0⟩:bV),⟨2,[115],0⟩].map bV.toD) ⟨some ⟨C1,0,none⟩,C1,0,2⟩:=ak.lit UY (au.fC (dT 2 [108] 0 (by decide) (by decide) (by decide) (by decide) (by decide)) (au.fO (dT 2 [115] 0 (by decide) (by decide) (by decide) (by decide) (by decide)))) (lt _ (by omega)) (by decide) (by decide);have t2:ak W (·<W.heap.size) ([(⟨4,[115],0⟩:bV),⟨1,[],3⟩].map bV.toD) ⟨some ⟨D1,0,none⟩,D1,0,2⟩:=ak.lit UZ (au.fC (dT 4 [115] 0 (by decide) (by decide) (by decide) (by decide) (by decide)) (au.fO (dT 1 [] 3 (by decide) (by decide) (by decide) (by decide) (by decide)))) (lt _ (by omega)) (by decide) (by decide);have dB:∀(b:Bs) (n:Int),b.length<=4->0<=n->n<=13->aM W (·<W.heap.size) (aH.toD ⟨b,n⟩) [.string ⟨b.toArray⟩,.int .i64 n]:=fun b n h3 h4 h5=>by rw[aH.toD,aM];exact au.fC (dS b h3) (au.fC (dI n h4 h5) rfl)
  have b1:ak W (·<W.heap.size) ([(⟨[108],1⟩:aH),⟨[115],2⟩].map aH.toD) ⟨some ⟨E1,0,none⟩,E1,0,2⟩:=ak.lit U0 (au.fC (dB [108] 1 (by decide) (by decide) (by decide)) (au.fO (dB [115] 2 (by decide) (by decide) (by decide)))) (lt _ (by omega)) (by decide) (by decide);have nl:∀(xs:List D),xs=[]->ak W (·<W.heap.size) xs ⟨none,0,0,0⟩:=fun xs h=>by subst h;exact ak.nil (Nat.zero_le _) _ _ _
  have i7:∀n:Int,0<=n->n<=13->jh n:=fun n h1 h2=>by unfold jh;omega
  have f3:aM W (·<W.heap.size) (ag.mk 3 [] 0 [⟨2,[108],0⟩,⟨2,[115],0⟩] [] []).toD [.int .i64 3,.string ⟨#[]⟩,.int .i64 0,.slice (some ⟨C1,0,none⟩) 2 2,.slice none 0 0,.slice none 0 0]:=aJ.iff.2 ⟨⟨⟨some ⟨C1,0,none⟩,C1,0,2⟩,⟨none,0,0,0⟩,⟨none,0,0,0⟩⟩,rfl,⟨i7 _ (by decide) (by decide),by decide,i7 _ (by decide) (by decide),t1,nl _ rfl,nl _ rfl⟩⟩;have f9:aM W (·<W.heap.size) (ag.mk 9 [60] 0 [⟨4,[115],0⟩,⟨1,[],3⟩] [] []).toD [.int .i64 9,.string ⟨#[60]⟩,.int .i64 0,.slice (some ⟨D1,0,none⟩) 2 2,.slice none 0 0,.slice none 0 0]:=aJ.iff.2 ⟨⟨⟨some ⟨D1,0,none⟩,D1,0,2⟩,⟨none,0,0,0⟩,⟨none,0,0,0⟩⟩,rfl,⟨i7 _ (by decide) (by decide),by decide,i7 _ (by decide) (by decide),t2,nl _ rfl,nl _ rfl⟩⟩;have fl:ak W (·<W.heap.size) ([(ag.mk 3 [] 0 [⟨2,[108],0⟩,⟨2,[115],0⟩] [] []),.mk 9 [60] 0 [⟨4,[115],0⟩,⟨1,[],3⟩] [] []].map ag.toD) ⟨some ⟨E2,0,none⟩,E2,0,2⟩:=ak.lit U1 (au.fC f3 (au.fO f9)) (lt _ (by omega)) (by decide) (by decide);refine⟨⟨s1,s2,nl _ rfl,nl _ rfl,s3⟩,au.fO (jf.iff.2 ⟨⟨⟨some ⟨E1,0,none⟩,E1,0,2⟩,⟨⟨none,0,0,0⟩,⟨none,0,0,0⟩,⟨some ⟨E2,0,none⟩,E2,0,2⟩⟩⟩,rfl,⟨by decide,i7 _ (by decide) (by decide),b1,⟨i7 _ (by decide) (by decide),by decide,i7 _ (by decide) (by decide),nl _ rfl,nl _ rfl,fl⟩⟩⟩)⟩)
 have HC:Hid (∀W,aa.Mod (fun k=>k=BR) W4 W->W.cell? ⟨A4,0,none⟩=some (.slice (some ⟨A1,0,none⟩) 1 1)/\W.cell? ⟨A4,1,none⟩=some (.slice (some ⟨A2,0,none⟩) 1 1)/\W.cell? ⟨A4,2,none⟩=some (.slice none 0 0)/\W.cell? ⟨A4,3,none⟩=some (.slice none 0 0)/\W.cell? ⟨A4,4,none⟩=some (.slice (some ⟨A3,0,none⟩) 1 1)/\W.cell? ⟨E3,0,none⟩=some (.string ⟨#[103,111,110,101]⟩)/\W.cell? ⟨E3,1,none⟩=some (.bool true)/\W.cell? ⟨E3,2,none⟩=some (.int .i64 0)/\W.cell? ⟨E3,3,none⟩=some (.slice (some ⟨E1,0,none⟩) 2 2)/\W.cell? ⟨E3,4,none⟩=some (.int .i64 13)/\W.cell? ⟨E3,5,none⟩=some (.string ⟨#[]⟩)/\W.cell? ⟨E3,6,none⟩=some (.int .i64 0)/\W.cell? ⟨E3,7,none⟩=some (.slice none 0 0)/\W.cell? ⟨E3,8,none⟩=some (.slice none 0 0)/\W.cell? ⟨E3,9,none⟩=some (.slice (some ⟨E2,0,none⟩) 2 2)):=Lh (fun W hM=>by
  have h1:=ai Tf hM (by omega);have h2:=ai Q8 hM (by omega);exact⟨cH h1 rfl,cH h1 rfl,cH h1 rfl,cH h1 rfl,cH h1 rfl,cH h2 rfl,cH h2 rfl,cH h2 rfl,cH h2 rfl,cH h2 rfl,cH h2 rfl,cH h2 rfl,cH h2 rfl,cH h2 rfl,cH h2 rfl⟩)
 have FIN:Hid (∀(R:Nat) (W:World),aa.Mod (fun k=>k=BR) W4 W->W4.heap.size<=R->W.heap[R]?=some (.cells #[.string ⟨#[103,111,110,101]⟩,.bool true,.int .i64 0,.slice (some ⟨E1,0,none⟩) 2 2,.int .i64 13,.string ⟨#[]⟩,.int .i64 0,.slice none 0 0,.slice none 0 0,.slice (some ⟨E2,0,none⟩) 2 2] 66 (0,0))->∃(x:bH) (z:aB),Ending.returned (.tuple #[.agg #[.slice (some ⟨A1,0,none⟩) 1 1,.slice (some ⟨A2,0,none⟩) 1 1,.slice none 0 0,.slice none 0 0,.slice (some ⟨A3,0,none⟩) 1 1],.slice (some ⟨R,0,none⟩) 1 1])=.returned (.tuple #[.agg (x.cells bU).toArray,.slice z.a 1 z.cap])/\dh W (·<W.heap.size) bU x/\ak W (·<W.heap.size) ([jZ].map aV.toD) z/\Below w.heap.size w W):=Lh (fun R W hM hR hh=>⟨⟨⟨some ⟨A1,0,none⟩,A1,0,1⟩,⟨some ⟨A2,0,none⟩,A2,0,1⟩,⟨none,0,0,0⟩,⟨none,0,0,0⟩,⟨some ⟨A3,0,none⟩,A3,0,1⟩⟩,⟨some ⟨R,0,none⟩,R,0,1⟩,rfl,(HF.out W hM).1,ak.lit hh (HF.out W hM).2 (gS hh).1 (by decide) (by decide),IY.trans (hM.below IY.size (fun k hk=>by omega))⟩);have zg:=Lh (aI IY (aI hr4 (show w.heap.size<=BR by omega)));have q3:∀i v,(#[.int .i64 3,.string ⟨#[]⟩,.int .i64 0,.slice (some ⟨C1,0,none⟩) 2 2,.slice none 0 0,.slice none 0 0]:Array Value)[i]?=some v->W3.cell? ⟨C2,i,none⟩=some v:=fun i v h=>cH ((Cu.block C2 (by omega)).trans O9) h;have q9:∀i v,(#[.int .i64 9,.string ⟨#[60]⟩,.int .i64 0,.slice (some ⟨D1,0,none⟩) 2 2,.slice none 0 0,.slice none 0 0]:Array Value)[i]?=some v->W3.cell? ⟨D2,i,none⟩=some v:=fun i v h=>cH Pb h;have c0:=q3 0 _ rfl;have c1:=q3 1 _ rfl;have c2:=q3 2 _ rfl;have c3:=q3 3 _ rfl;have c4:=q3 4 _ rfl;have c5:=q3 5 _ rfl;have d0:=q9 0 _ rfl;have d1:=q9 1 _ rfl;have d2:=q9 2 _ rfl;have d3:=q9 3 _ rfl;have d4:=q9 4 _ rfl;have d5:=q9 5 _ rfl;have Vq:C2<W3.heap.size:=by omega
 have Vr:D2<W3.heap.size:=by omega
 clear q3 q9 zK Le IY hr4 Tc Td Te Tf Tg UR Ti UT kA1 kA2 kA3 Q6 SK O9 SL Pb SN SQ Q8 hb0 k0 hl0 hbW1 hbW2 Cu FJ QC QD QE QF Q0 Q3 Q4 Q5;have HW:=Lh (aI hW0 (aI hW1 (aI hW2 (aI hW3 tu))));have TQ:=Lh K8;have Ip:=Lh (aI Qi (aI hA3 (aI hA2 hA1)));have HL2:=Lh (aI hC2 OV);have RH:=Lh (aI hD2 hD1);have PI:=Lh (aI Ql (aI hE2 hE1));clear hW0 hW1 hW2 hW3 tu K8 hA1 hA2 hA3 Qi OV hC2 hD1 hD2 hE1 hE2 Ql;go_enter Tryz.func20,Tryz.ntmps20;go_upto_region 1 with fail
 rw[<-HW.out.1,<-TQ.out];go_upto_region 2 with fail
 rw[<-HW.out.2.1,<-Ip.out.1,<-Ip.out.2.1,<-Ip.out.2.2.1,<-Ip.out.2.2.2];go_upto_region 3 with fail
 rw[<-HW.out.2.2.1,<-HL2.out.1,<-HL2.out.2];go_upto_region 4 with fail
 rw[<-HW.out.2.2.2.1,<-RH.out.1,<-RH.out.2];go_upto_region 5 with fail
 rw[<-HW.out.2.2.2.2,<-PI.out.1,<-PI.out.2.1,<-PI.out.2.2];refine eU 4 (S:=fun W=>aa.Mod (fun k=>k=BR) W4 W) (by kernel_rfl) (aa.Mod.refl _ _).drew (fun hHeld=>?_);refine dA (i:=0) rfl hHeld HC ?_;refine dA (i:=1) rfl hHeld HC ?_;refine dE (rs:=[2,3]) (by kernel_rfl) (by simp) ?_;refine jE (i:=2) rfl (fun K hK=>?_) (jE (i:=3) rfl (fun K hK=>?_) gV)
 ·go_simp;obtain⟨W5,lT⟩:∃W5,W5=W4.alloc (.cells #[.string ⟨#[103,111,110,101]⟩,.bool true,.int .i64 0,.slice (some ⟨E1,0,none⟩) 2 2,.int .i64 13,.string ⟨#[]⟩,.int .i64 0,.slice none 0 0,.slice none 0 0,.slice (some ⟨E2,0,none⟩) 2 2] 66):=⟨_,rfl⟩;rw[<-lT];have RJ:=Lh (show aa.Mod (fun k=>k=BR) W4 W5 by rw[lT];exact(aa.Mod.refl _ _).alloc _);have TL:=Lh (show W5.heap[W4.heap.size]?=some (.cells #[.string ⟨#[103,111,110,101]⟩,.bool true,.int .i64 0,.slice (some ⟨E1,0,none⟩) 2 2,.int .i64 13,.string ⟨#[]⟩,.int .i64 0,.slice none 0 0,.slice none 0 0,.slice (some ⟨E2,0,none⟩) 2 2] 66 (0,0)) by rw[lT,ae,if_pos rfl]);have r5:W5.heap[BR]?=some (.cells #[.slice none 0 0,.slice none 0 0,.slice none 0 0,.slice none 0 0,.slice none 0 0] 28 (0,0)):=by rw[lT,ae,if_neg (by have:=(gS zg.out.2.1).1;omega)];exact zg.out.2.1
  clear lT;refine hK.out _ _ (RJ.out.drew) fun hHeld=>?_;clear hK K
  try simp only[Act.put,sO,sP,sQ]
  have x0:W5.cell? ⟨BR,0,none⟩=some (.slice none 0 0):=cH r5 rfl;have x1:W5.cell? ⟨BR,1,none⟩=some (.slice none 0 0):=cH r5 rfl;have x2:W5.cell? ⟨BR,2,none⟩=some (.slice none 0 0):=cH r5 rfl;have x3:W5.cell? ⟨BR,3,none⟩=some (.slice none 0 0):=cH r5 rfl;have x4:W5.cell? ⟨BR,4,none⟩=some (.slice none 0 0):=cH r5 rfl;have f0:W5.frozen? ⟨BR,0,none⟩=false:=fH r5;have f1:W5.frozen? ⟨BR,1,none⟩=false:=fH r5;have f2:W5.frozen? ⟨BR,2,none⟩=false:=fH r5;have f3:W5.frozen? ⟨BR,3,none⟩=false:=fH r5;have f4:W5.frozen? ⟨BR,4,none⟩=false:=fH r5;have hlr:BR<W5.heap.size:=(gS r5).1;refine dE (rs:=[3]) (by kernel_rfl) (by simp) ?_;refine jE rfl (fun K hK=>?_) gV;have Eh:=Lh (aI (uV r5 (.slice (some ⟨A1,0,none⟩) 1 1) (.slice (some ⟨A2,0,none⟩) 1 1) (.slice none 0 0) (.slice none 0 0) (.slice (some ⟨A3,0,none⟩) 1 1)) (yE W5 BR 0 (.slice (some ⟨A1,0,none⟩) 1 1) (.slice (some ⟨A2,0,none⟩) 1 1) (.slice none 0 0) (.slice none 0 0) (.slice (some ⟨A3,0,none⟩) 1 1)));unfold C7 at Eh;simp only[Nat.zero_add] at Eh;clear r5;go_simp;clear x0 x1 x2 x3 x4 f0 f1 f2 f3 f4 hlr;generalize ((((W5.setCell _ _).setCell _ _).setCell _ _).setCell _ _).setCell _ _=W6 at Eh ⊢;have JZ:=Lh (RJ.out.trans Eh.out.2 (fun _ _ h=>h));have TM:=Lh (ai TL.out Eh.out.2 (by have:=(gS zg.out.2.1).1;omega));have r6:=Eh.out.1;refine hK.out _ _ (JZ.out.drew) fun hHeld=>?_;clear hK K
  try simp only[Act.put,sO,sP,sQ]
  refine dE (rs:=[4]) (by kernel_rfl) (by simp) ?_;refine ko rfl (by kernel_rfl) (fun K hK=>?_) gV;go_simp;refine hK.out _ _ ?_;clear hK K
  try simp only[Act.put,sO,sP,sQ]
  refine kv (by kernel_rfl) ?_ _;have y0:W6.cell? ⟨BR,0,none⟩=some (.slice (some ⟨A1,0,none⟩) 1 1):=cH r6 rfl;have y1:W6.cell? ⟨BR,1,none⟩=some (.slice (some ⟨A2,0,none⟩) 1 1):=cH r6 rfl;have y2:W6.cell? ⟨BR,2,none⟩=some (.slice none 0 0):=cH r6 rfl;have y3:W6.cell? ⟨BR,3,none⟩=some (.slice none 0 0):=cH r6 rfl;have y4:W6.cell? ⟨BR,4,none⟩=some (.slice (some ⟨A3,0,none⟩) 1 1):=cH r6 rfl;go_wp2_with fail;refine bodyPost_ret (v:=.tuple #[.agg #[.slice (some ⟨A1,0,none⟩) 1 1,.slice (some ⟨A2,0,none⟩) 1 1,.slice none 0 0,.slice none 0 0,.slice (some ⟨A3,0,none⟩) 1 1],.slice (some ⟨W4.heap.size,0,none⟩) 1 1]) (by simp[results,Tryz.results20,go_sem,y0,y1,y2,y3,y4]) rfl ?_;exact FIN.out _ _ (by first|exact JZ.out|exact JZ.out.drew|exact JZ.out.drew.drew) (Nat.le_refl _) TM.out
 ·have r5:W4.heap[BR]?=some (.cells #[.slice none 0 0,.slice none 0 0,.slice none 0 0,.slice none 0 0,.slice none 0 0] 28 (0,0)):=zg.out.2.1;have x0:W4.cell? ⟨BR,0,none⟩=some (.slice none 0 0):=cH r5 rfl;have x1:W4.cell? ⟨BR,1,none⟩=some (.slice none 0 0):=cH r5 rfl;have x2:W4.cell? ⟨BR,2,none⟩=some (.slice none 0 0):=cH r5 rfl;have x3:W4.cell? ⟨BR,3,none⟩=some (.slice none 0 0):=cH r5 rfl;have x4:W4.cell? ⟨BR,4,none⟩=some (.slice none 0 0):=cH r5 rfl;have f0:W4.frozen? ⟨BR,0,none⟩=false:=fH r5;have f1:W4.frozen? ⟨BR,1,none⟩=false:=fH r5;have f2:W4.frozen? ⟨BR,2,none⟩=false:=fH r5;have f3:W4.frozen? ⟨BR,3,none⟩=false:=fH r5;have f4:W4.frozen? ⟨BR,4,none⟩=false:=fH r5;have hlr:BR<W4.heap.size:=(gS r5).1;have Eh:=Lh (aI (uV r5 (.slice (some ⟨A1,0,none⟩) 1 1) (.slice (some ⟨A2,0,none⟩) 1 1) (.slice none 0 0) (.slice none 0 0) (.slice (some ⟨A3,0,none⟩) 1 1)) (yE W4 BR 0 (.slice (some ⟨A1,0,none⟩) 1 1) (.slice (some ⟨A2,0,none⟩) 1 1) (.slice none 0 0) (.slice none 0 0) (.slice (some ⟨A3,0,none⟩) 1 1)));unfold C7 at Eh;simp only[Nat.zero_add] at Eh;clear r5;go_simp;clear x0 x1 x2 x3 x4 f0 f1 f2 f3 f4 hlr;generalize ((((W4.setCell _ _).setCell _ _).setCell _ _).setCell _ _).setCell _ _=W6 at Eh ⊢;have JZ:=Lh Eh.out.2;have r6:=Eh.out.1;refine hK.out _ _ (JZ.out.drew) fun hHeld=>?_;clear hK K
  try simp only[Act.put,sO,sP,sQ]
  refine dE (rs:=[2]) (by kernel_rfl) (by simp) ?_;refine jE rfl (fun K hK=>?_) gV;go_simp;obtain⟨W5,lT⟩:∃W5,W5=W6.alloc (.cells #[.string ⟨#[103,111,110,101]⟩,.bool true,.int .i64 0,.slice (some ⟨E1,0,none⟩) 2 2,.int .i64 13,.string ⟨#[]⟩,.int .i64 0,.slice none 0 0,.slice none 0 0,.slice (some ⟨E2,0,none⟩) 2 2] 66):=⟨_,rfl⟩;rw[<-lT];have OE:=Lh (show aa.Mod (fun k=>k=BR) W4 W5 by rw[lT];exact JZ.out.alloc _);have TN:=Lh (show W5.heap[W6.heap.size]?=some (.cells #[.string ⟨#[103,111,110,101]⟩,.bool true,.int .i64 0,.slice (some ⟨E1,0,none⟩) 2 2,.int .i64 13,.string ⟨#[]⟩,.int .i64 0,.slice none 0 0,.slice none 0 0,.slice (some ⟨E2,0,none⟩) 2 2] 66 (0,0)) by rw[lT,ae,if_pos rfl]);have r7:W5.heap[BR]?=some (.cells #[.slice (some ⟨A1,0,none⟩) 1 1,.slice (some ⟨A2,0,none⟩) 1 1,.slice none 0 0,.slice none 0 0,.slice (some ⟨A3,0,none⟩) 1 1] 28 (0,0)):=by rw[lT,ae,if_neg (by have:=(gS r6).1;omega)];exact r6
  clear lT r6;have r6:=r7;clear r7;refine hK.out _ _ (OE.out.drew) fun hHeld=>?_;clear hK K
  try simp only[Act.put,sO,sP,sQ]
  refine dE (rs:=[4]) (by kernel_rfl) (by simp) ?_;refine ko rfl (by kernel_rfl) (fun K hK=>?_) gV;go_simp;refine hK.out _ _ ?_;clear hK K
  try simp only[Act.put,sO,sP,sQ]
  refine kv (by kernel_rfl) ?_ _;have y0:W5.cell? ⟨BR,0,none⟩=some (.slice (some ⟨A1,0,none⟩) 1 1):=cH r6 rfl;have y1:W5.cell? ⟨BR,1,none⟩=some (.slice (some ⟨A2,0,none⟩) 1 1):=cH r6 rfl;have y2:W5.cell? ⟨BR,2,none⟩=some (.slice none 0 0):=cH r6 rfl;have y3:W5.cell? ⟨BR,3,none⟩=some (.slice none 0 0):=cH r6 rfl;have y4:W5.cell? ⟨BR,4,none⟩=some (.slice (some ⟨A3,0,none⟩) 1 1):=cH r6 rfl;go_wp2_with fail;refine bodyPost_ret (v:=.tuple #[.agg #[.slice (some ⟨A1,0,none⟩) 1 1,.slice (some ⟨A2,0,none⟩) 1 1,.slice none 0 0,.slice none 0 0,.slice (some ⟨A3,0,none⟩) 1 1],.slice (some ⟨W6.heap.size,0,none⟩) 1 1]) (by simp[results,Tryz.results20,go_sem,y0,y1,y2,y3,y4]) rfl ?_;exact FIN.out _ _ (by first|exact OE.out|exact OE.out.drew|exact OE.out.drew.drew) JZ.out.size TN.out
end Go.Proofs.YtncnnbmeacpboaaGreatDoor
namespace Go.aa
open Go.RowKit
variable {s:ax} {l:List aV} {X:List Ins} {B sz:Nat} {w W:World} {F:Nat->Prop} {x:D} {cs:List Value} {a b:Int} {α:Type}
def mK:Bs:=[103,111,110,101,32,40,108,32,61,32,109,97,116,104,44,32,115,32,61,32,109,111,110,49,41,58,32,97,116,40,109,97,116,104,44,32,109,111,110,49,41,32,45,62,32,104,111,117,114,40,109,111,110,49,41,32,60,32,51]
def uF:Bs:=[104,97,114,100,32,103,111,110,101,58]
def LQ:Bs:=[116,104,101,115,101,32,99,97,110,39,116,32,98,101,32,116,111,103,101,116,104,101,114,58]
def KU:Bs:=[116,104,97,116,32,105,115,32,97,108,108]
theorem JN:pW bU [jZ] ⟨0,[0,0]⟩=(mK,0):=by decide+kernel
theorem Hu:fU bU [jZ] [⟨0,[0,0]⟩]=([uF,32::32::mK],0):=by decide+kernel
theorem LW:fP 1 3 bU [jZ] [⟨0,[0,0]⟩] ⟨1,[[0]],[]⟩=([LQ,uF,32::32::mK,KU],0):=by decide+kernel
theorem Ht:pW bU [jZ] ⟨0,[0,1]⟩=([],1):=by decide+kernel
theorem JO:fP 1 3 bU [jZ] [⟨0,[0,0]⟩] ⟨1,[[1]],[]⟩=([],1):=by decide+kernel
def CW:Tr:=.mk 0 0 0 []
def vM:dz:=⟨0,[0,0],CW⟩
end Go.aa
namespace Go.Proofs.YtncnnbmeacpboaaGreatDoor
open Go.RowKit Go.aa
variable {s:ax} {l:List aV} {X:List Ins} {B sz:Nat} {w W:World} {F:Nat->Prop} {x:D} {cs:List Value} {a b:Int} {α:Type}
theorem Jo:aM W F CW.toD [.int .i64 0,.int .i64 0,.int .i64 0,.slice none 0 0]:=by
 rw[CW,Tr.toD,aM];have dI:aM W F (.int .i64 0) [.int .i64 0]:=by rw[aM];exact⟨rfl,by decide⟩
 have dN:aM W F (.sl []) [.slice none 0 0]:=aM.bB.2 ⟨⟨none,0,0,0⟩,rfl,ak.nil (Nat.zero_le _) _ _ _⟩;exact au.fC dI (au.fC dI (au.fC dI (au.fO dN)))
theorem lF:iE bU:=by
 refine⟨⟨by decide,by decide,by decide,by decide,by decide⟩,fun sort=>?_,by decide,by decide,by decide,by decide⟩;unfold aj
 repeat' split
 all_goals decide
theorem lD:∀r∈[jZ],gL r:=by
 intro r hr;rw[List.mem_singleton.1 hr];exact⟨by decide,by decide,by decide,⟨by decide,by unfold mf;decide+kernel⟩⟩
structure KP (w W:World) (x:bH) (z:aB) (SB IB XB:Nat):Prop where
 box:W.heap[SB]?=some (.cells (x.cells bU).toArray 28 (0,0))
 Eo:dh W (·<W.heap.size) bU x
 Bp:ak W (·<W.heap.size) ([jZ].map aV.toD) z
 ints:W.heap[IB]?=some (.cells #[.int .i64 0,.int .i64 0] 3 (0,0))
 inst:W.heap[XB]?=some (.cells #[.int .i64 0,.slice (some ⟨IB,0,none⟩) 2 2,.int .i64 0,.int .i64 0,.int .i64 0,.slice none 0 0] 35 (0,0))
 Qe:Below w.heap.size w W
 gs:GS W
theorem KP.later{w W W':World}{x:bH}{z:aB}{SB IB XB:Nat}(h:KP w W x z SB IB XB)(hb:Below W.heap.size W W'):KP w W' x z SB IB XB:=
 ⟨(hb.block _ (gS h.box).1).trans h.box,h.Eo.later hb hb.size,h.Bp.later hb hb.size,(hb.block _ (gS h.ints).1).trans h.ints,(hb.block _ (gS h.inst).1).trans h.inst,h.Qe.trans (hb.mono h.Qe.size),h.gs.below hb⟩
theorem FY(ha:jh a)(hb:jh b)(h:W.heap[B]?=some (.cells #[.int .i64 a,.int .i64 b] 3 (0,0))):ak W (·<W.heap.size) (aG [a,b]) ⟨some ⟨B,0,none⟩,B,0,2⟩:=by
 have dI:∀n,jh n->aM W (·<W.heap.size) (.int .i64 n) [.int .i64 n]:=fun n hn=>by rw[aM];exact⟨rfl,hn.wf⟩
 exact ak.lit h (au.fC (dI _ ha) (au.fO (dI _ hb))) (gS h).1 (by simp) (by decide)
theorem yN{C:Nat}(ha:jh a)(h:W.heap[B]?=some (.cells #[.int .i64 a] 3 (0,0)))(k:W.heap[C]?=some (.cells #[.slice (some ⟨B,0,none⟩) 1 1] 30 (0,0))):ak W (·<W.heap.size) (bD [[a]]) ⟨some ⟨C,0,none⟩,C,0,1⟩:=by
 have dI:aM W (·<W.heap.size) (.int .i64 a) [.int .i64 a]:=by rw[aM];exact⟨rfl,ha.wf⟩
 have s1:ak W (·<W.heap.size) (aG [a]) ⟨some ⟨B,0,none⟩,B,0,1⟩:=ak.lit h (au.fO dI) (gS h).1 (by simp) (by decide);exact ak.lit k (au.fO (aM.bB.2 ⟨_,rfl,s1⟩)) (gS k).1 (by simp[bD]) (by decide)
theorem FT:jh 0:=by unfold jh;omega
theorem Oc:jh 1:=by unfold jh;omega
theorem vY(hb:jh b)(h:W.heap[B]?=some (.cells #[.int .i64 0,.int .i64 b] 3 (0,0))):gm W (·<W.heap.size) ⟨0,[0,b],CW⟩ ⟨⟨some ⟨B,0,none⟩,B,0,2⟩,0,0,0,none,0,0⟩:=
 ⟨FT,FY FT hb h,Jo⟩
theorem KP.xs{x:bH}{z:aB}{SB IB XB:Nat}(h:KP w W x z SB IB XB):ak W (·<W.heap.size) ([vM].map dz.toD) ⟨some ⟨XB,0,none⟩,XB,0,1⟩:=by
 exact ak.lit h.inst (au.fO (gm.iff.2 ⟨_,rfl,vY FT h.ints⟩)) (gS h.inst).1 (by decide) (by decide)
section
variable {w W:World} {x:bH} {z:aB} {SB IB XB:Nat} (hI:gq) (h:KP w W x z SB IB XB)
include hI h
theorem Jl:Calls Tryz.prog 10 #[.agg (x.cells bU).toArray,.slice z.a 1 z.cap,.agg #[.int .i64 0,.slice (some ⟨IB,0,none⟩) 2 2,.int .i64 0,.int .i64 0,.int .i64 0,.slice none 0 0]] W fun e w'=>e=.returned (.tuple #[.string ⟨mK.toArray⟩,.int .i64 0])/\Below W.heap.size W w':=by
 have c:=xR bU x [jZ] z vM ⟨⟨some ⟨IB,0,none⟩,IB,0,2⟩,0,0,0,none,0,0⟩ W hI h.Eo lF h.Bp (by decide) lD (vY FT h.ints) (by decide) h.gs;rw[show pW bU [jZ] vM.ins=(mK,0) from JN] at c;exact c
theorem Gb{B:Nat}(hB:W.heap[B]?=some (.cells #[.int .i64 0,.int .i64 1] 3 (0,0))):Calls Tryz.prog 10 #[.agg (x.cells bU).toArray,.slice z.a 1 z.cap,.agg #[.int .i64 0,.slice (some ⟨B,0,none⟩) 2 2,.int .i64 0,.int .i64 0,.int .i64 0,.slice none 0 0]] W fun e w'=>e=.returned (.tuple #[.string ⟨#[]⟩,.int .i64 1])/\Below W.heap.size W w':=by
 have c:=xR bU x [jZ] z ⟨0,[0,1],CW⟩ ⟨⟨some ⟨B,0,none⟩,B,0,2⟩,0,0,0,none,0,0⟩ W hI h.Eo lF h.Bp (by decide) lD (vY Oc hB) (by decide) h.gs;rw[show pW bU [jZ] (dz.mk 0 [0,1] CW).ins=([],1) from Ht] at c;exact c
theorem Gc:Calls Tryz.prog 13 #[.agg (x.cells bU).toArray,.slice z.a 1 z.cap,.slice (some ⟨XB,0,none⟩) 1 1] W fun e w'=>∃v:aB,e=.returned (.tuple #[.slice v.a 2 v.cap,.int .i64 0])/\ak w' (·<w'.heap.size) ([uF,32::32::mK].map aO) v/\Below W.heap.size W w':=by
 have c:=uJ bU x [jZ] z [vM] ⟨some ⟨XB,0,none⟩,XB,0,1⟩ W hI h.Eo lF h.Bp (by decide) lD h.xs (by decide) (by decide) h.gs;rw[show fU bU [jZ] ([vM].map dz.ins)=([uF,32::32::mK],0) from Hu] at c;exact c.mono fun e w' ⟨v,h1,⟨y,h2,h3⟩,h4⟩=>⟨y,by rw[h1,h2];rfl,h3.mono (fun k hk=>hk.2),h4⟩
theorem LJ{B C:Nat}(hB:W.heap[B]?=some (.cells #[.int .i64 0] 3 (0,0)))(hC:W.heap[C]?=some (.cells #[.slice (some ⟨B,0,none⟩) 1 1] 30 (0,0))):Calls Tryz.prog 15 #[.agg (x.cells bU).toArray,.slice z.a 1 z.cap,.slice (some ⟨XB,0,none⟩) 1 1,.agg #[.int .i64 1,.slice (some ⟨C,0,none⟩) 1 1,.slice none 0 0]] W fun e w'=>∃v:aB,e=.returned (.tuple #[.slice v.a 4 v.cap,.int .i64 0])/\ak w' (·<w'.heap.size) ([LQ,uF,32::32::mK,KU].map aO) v/\Below W.heap.size W w':=by
 have c:=qJ bU x [jZ] z [vM] ⟨some ⟨XB,0,none⟩,XB,0,1⟩ ⟨1,[[0]],[]⟩ ⟨⟨some ⟨C,0,none⟩,C,0,1⟩,⟨none,0,0,0⟩⟩ W hI h.Eo lF h.Bp (by decide) lD h.xs (by decide) (by decide) (yN FT hB hC) (ak.nil (Nat.zero_le _) _ _ _) (by decide) (by decide) (by decide) (by decide) h.gs;rw[show fP 1 3 bU [jZ] ([vM].map dz.ins) ⟨1,[[0]],[]⟩=([LQ,uF,32::32::mK,KU],0) from LW] at c;exact c.mono fun e w' ⟨v,h1,⟨y,h2,h3⟩,h4⟩=>⟨y,by rw[h1,h2];rfl,h3,h4⟩
theorem Jm{B C:Nat}(hB:W.heap[B]?=some (.cells #[.int .i64 1] 3 (0,0)))(hC:W.heap[C]?=some (.cells #[.slice (some ⟨B,0,none⟩) 1 1] 30 (0,0))):Calls Tryz.prog 15 #[.agg (x.cells bU).toArray,.slice z.a 1 z.cap,.slice (some ⟨XB,0,none⟩) 1 1,.agg #[.int .i64 1,.slice (some ⟨C,0,none⟩) 1 1,.slice none 0 0]] W fun e w'=>∃v,e=.returned (.tuple #[v,.int .i64 1])/\Below W.heap.size W w':=by
 have c:=qJ bU x [jZ] z [vM] ⟨some ⟨XB,0,none⟩,XB,0,1⟩ ⟨1,[[1]],[]⟩ ⟨⟨some ⟨C,0,none⟩,C,0,1⟩,⟨none,0,0,0⟩⟩ W hI h.Eo lF h.Bp (by decide) lD h.xs (by decide) (by decide) (yN Oc hB hC) (ak.nil (Nat.zero_le _) _ _ _) (by decide) (by decide) (by decide) (by decide) h.gs;rw[show fP 1 3 bU [jZ] ([vM].map dz.ins) ⟨1,[[1]],[]⟩=([],1) from JO] at c;exact c.mono fun e w' ⟨v,h1,_,h4⟩=>⟨v,h1,h4⟩
end
end Go.Proofs.YtncnnbmeacpboaaGreatDoor
namespace Go.Proofs.YtncnnbmeacpboaaGreatDoor
open Go.RowKit Go.aa
attribute [local go_sem] Oper.semAt_some
variable {s:ax} {l:List aV} {X:List Ins} {B sz:Nat} {w W:World} {F:Nat->Prop} {x:D} {cs:List Value} {a b:Int} {α:Type}
theorem zT(w:World)(hI:gq)(hg:GS w):Calls Tryz.prog 8 #[] w fun e w'=>e=.returned (.bool true)/\Below w.heap.size w w':=by
 have HI:=Lh hI;have HG:=Lh hg;clear hI hg;go_enter Tryz.func8,Tryz.ntmps8;go_wp2_with fail;refine(vN _).mono ?_;rintro e w1 ⟨x,z,rfl,h1,h2,b1⟩;have H1:=Lh (aI h1 (aI h2 b1));clear h1 h2 b1;go_upto_region 3 with fail
 obtain⟨SB,En⟩:∃SB,SB=w1.heap.size:=⟨_,rfl⟩;obtain⟨IB,hIB⟩:∃IB,IB=w1.heap.size+1:=⟨_,rfl⟩;obtain⟨XB,Mr⟩:∃XB,XB=w1.heap.size+1+1:=⟨_,rfl⟩;obtain⟨W3,hW3⟩:∃W3,W3=((w1.alloc (.cells #[.slice x.slots.a bU.slots.length x.slots.cap,.slice x.ah.a bU.ah.length x.ah.cap,.slice x.people.a bU.people.length x.people.cap,.slice x.groups.a bU.groups.length x.groups.cap,.slice x.lessons.a bU.lessons.length x.lessons.cap] 28)).alloc (.cells #[.int .i64 0,.int .i64 0] 3)).alloc (.cells #[.int .i64 0,.slice (some ⟨w1.heap.size+1,0,none⟩) 2 2,.int .i64 0,.int .i64 0,.int .i64 0,.slice none 0 0] 35):=⟨_,rfl⟩;have hb3:Below w1.heap.size w1 W3:=by rw[hW3];exact(((Below.refl _ _).alloc (Nat.le_refl _) _).alloc (by simp) _).alloc (by simp<;>omega) _
 have L3:KP w W3 x z SB IB XB:=by
  refine⟨?_,H1.out.1.later hb3 hb3.size,H1.out.2.1.later hb3 hb3.size,?_,?_,H1.out.2.2.trans (hb3.mono H1.out.2.2.size),(HG.out.below H1.out.2.2).below hb3⟩
  ·rw[hW3,ae,if_neg (by simp<;>omega),ae,if_neg (by simp<;>omega),ae,if_pos En]
  ·rw[hW3,ae,if_neg (by simp<;>omega),ae,if_pos (by simp<;>omega)]
  ·rw[hW3,ae,if_pos (by simp<;>omega),hIB]
 rw[<-hW3,<-Mr,<-hIB,<-En];have L3:=Lh L3;clear hb3 hW3 En hIB Mr H1
 try(generalize Value.tuple _=tt)
 have sZ:Hid (∀W,Below W3.heap.size W3 W->W.cell? ⟨SB,0,none⟩=some (.slice x.slots.a bU.slots.length x.slots.cap)/\W.cell? ⟨SB,1,none⟩=some (.slice x.ah.a bU.ah.length x.ah.cap)/\W.cell? ⟨SB,2,none⟩=some (.slice x.people.a bU.people.length x.people.cap)/\W.cell? ⟨SB,3,none⟩=some (.slice x.groups.a bU.groups.length x.groups.cap)/\W.cell? ⟨SB,4,none⟩=some (.slice x.lessons.a bU.lessons.length x.lessons.cap)/\W.cell? ⟨XB,0,none⟩=some (.int .i64 0)/\W.cell? ⟨XB,1,none⟩=some (.slice (some ⟨IB,0,none⟩) 2 2)/\W.cell? ⟨XB,2,none⟩=some (.int .i64 0)/\W.cell? ⟨XB,3,none⟩=some (.int .i64 0)/\W.cell? ⟨XB,4,none⟩=some (.int .i64 0)/\W.cell? ⟨XB,5,none⟩=some (.slice none 0 0)):=Lh (fun W hB=>by
  have h:=L3.out.later hB;have h1:=h.box;have h2:=h.inst;exact⟨cH h1 rfl,cH h1 rfl,cH h1 rfl,cH h1 rfl,cH h1 rfl,cH h2 rfl,cH h2 rfl,cH h2 rfl,cH h2 rfl,cH h2 rfl,cH h2 rfl⟩)
 refine eU 10 (S:=fun W=>Below W3.heap.size W3 W) (by kernel_rfl) (Below.refl _ _).drew (fun hHeld=>?_);refine dA (i:=0) rfl hHeld sZ ?_;refine dA (i:=1) rfl hHeld sZ ?_;refine dA (i:=2) rfl hHeld sZ ?_;refine dA (i:=3) rfl hHeld sZ ?_;refine dA (i:=4) rfl hHeld sZ ?_;refine dE (rs:=[5]) (by kernel_rfl) (by simp) ?_;refine jE rfl (fun K hK=>?_) gV;go_simp;refine(Jl HI.out (L3.out.later hHeld)).mono ?_;rintro e w4 ⟨rfl,hb⟩;have B4:=Lh (hHeld.trans (hb.mono hHeld.size));clear hb;go_simp;refine hK.out _ _ (B4.out) fun hHeld=>?_;clear hK K
 try simp only[Act.put,sO,sP,sQ]
 refine dA (i:=6) rfl hHeld sZ ?_;refine dA (i:=7) rfl hHeld sZ ?_;refine dA (i:=8) rfl hHeld sZ ?_;refine dA (i:=9) rfl hHeld sZ ?_;refine dE (rs:=[10]) (by kernel_rfl) (by simp) ?_;refine ko rfl (by kernel_rfl) (fun K hK=>?_) gV;go_simp;refine hK.out _ _ ?_;clear hK K
 try simp only[Act.put,sO,sP,sQ]
 refine kv (by kernel_rfl) ?_ _;have L4:=Lh (L3.out.later B4.out);clear hHeld sZ B4 L3;have c0:w4.cell? ⟨SB,0,none⟩=some (.slice x.slots.a bU.slots.length x.slots.cap):=cH L4.out.box rfl;have c1:w4.cell? ⟨SB,1,none⟩=some (.slice x.ah.a bU.ah.length x.ah.cap):=cH L4.out.box rfl;have c2:w4.cell? ⟨SB,2,none⟩=some (.slice x.people.a bU.people.length x.people.cap):=cH L4.out.box rfl;have c3:w4.cell? ⟨SB,3,none⟩=some (.slice x.groups.a bU.groups.length x.groups.cap):=cH L4.out.box rfl;have c4:w4.cell? ⟨SB,4,none⟩=some (.slice x.lessons.a bU.lessons.length x.lessons.cap):=cH L4.out.box rfl;go_wp2_with fail;refine(Gc HI.out L4.out).mono ?_;rintro e w5 ⟨v,rfl,hv,hb⟩;have L5:=Lh (aI (L4.out.later hb) hv);clear hb hv c0 c1 c2 c3 c4 L4;have c0:w5.cell? ⟨SB,0,none⟩=some (.slice x.slots.a bU.slots.length x.slots.cap):=cH L5.out.1.box rfl;have c1:w5.cell? ⟨SB,1,none⟩=some (.slice x.ah.a bU.ah.length x.ah.cap):=cH L5.out.1.box rfl;have c2:w5.cell? ⟨SB,2,none⟩=some (.slice x.people.a bU.people.length x.people.cap):=cH L5.out.1.box rfl;have c3:w5.cell? ⟨SB,3,none⟩=some (.slice x.groups.a bU.groups.length x.groups.cap):=cH L5.out.1.box rfl;have c4:w5.cell? ⟨SB,4,none⟩=some (.slice x.lessons.a bU.lessons.length x.lessons.cap):=cH L5.out.1.box rfl;go_wp2_with fail;obtain⟨W6,qx⟩:∃W6,W6=(w5.alloc (.cells #[.int .i64 0] 3)).alloc (.cells #[.slice (some ⟨w5.heap.size,0,none⟩) 1 1] 30):=⟨_,rfl⟩;have OS:Below w5.heap.size w5 W6:=by rw[qx];exact((Below.refl _ _).alloc (Nat.le_refl _) _).alloc (by simp) _
 have S9:W6.heap[w5.heap.size]?=some (.cells #[.int .i64 0] 3 (0,0)):=by rw[qx,ae,if_neg (by simp),ae,if_pos rfl]
 have Tj:W6.heap[w5.heap.size+1]?=some (.cells #[.slice (some ⟨w5.heap.size,0,none⟩) 1 1] 30 (0,0)):=by rw[qx,ae,if_pos (by simp)]
 rw[<-qx];refine(LJ HI.out (L5.out.1.later OS) S9 Tj).mono ?_;rintro e w7 ⟨v2,rfl,hv,hb⟩;have OQ:=OS.trans (hb.mono OS.size);have L7:=Lh (aI (L5.out.1.later OQ) (aI (L5.out.2.later OQ OQ.size) hv));clear hb hv c0 c1 c2 c3 c4 L5 OS S9 Tj qx OQ;have c0:w7.cell? ⟨SB,0,none⟩=some (.slice x.slots.a bU.slots.length x.slots.cap):=cH L7.out.1.box rfl;have c1:w7.cell? ⟨SB,1,none⟩=some (.slice x.ah.a bU.ah.length x.ah.cap):=cH L7.out.1.box rfl;have c2:w7.cell? ⟨SB,2,none⟩=some (.slice x.people.a bU.people.length x.people.cap):=cH L7.out.1.box rfl;have c3:w7.cell? ⟨SB,3,none⟩=some (.slice x.groups.a bU.groups.length x.groups.cap):=cH L7.out.1.box rfl;have c4:w7.cell? ⟨SB,4,none⟩=some (.slice x.lessons.a bU.lessons.length x.lessons.cap):=cH L7.out.1.box rfl;go_wp2_with fail;obtain⟨W8,tN⟩:∃W8,W8=w7.alloc (.cells #[.int .i64 0,.int .i64 1] 3):=⟨_,rfl⟩;have b8:Below w7.heap.size w7 W8:=by rw[tN];exact(Below.refl _ _).alloc (Nat.le_refl _) _
 have k8:W8.heap[w7.heap.size]?=some (.cells #[.int .i64 0,.int .i64 1] 3 (0,0)):=by rw[tN,ae,if_pos rfl]
 rw[<-tN];refine(Gb HI.out (L7.out.1.later b8) k8).mono ?_;rintro e w9 ⟨rfl,hb⟩;have Mm:=b8.trans (hb.mono b8.size);have L9:=Lh (aI (L7.out.1.later Mm) (aI (L7.out.2.1.later Mm Mm.size) (L7.out.2.2.later Mm Mm.size)));clear hb c0 c1 c2 c3 c4 L7 b8 k8 tN Mm;have c0:w9.cell? ⟨SB,0,none⟩=some (.slice x.slots.a bU.slots.length x.slots.cap):=cH L9.out.1.box rfl;have c1:w9.cell? ⟨SB,1,none⟩=some (.slice x.ah.a bU.ah.length x.ah.cap):=cH L9.out.1.box rfl;have c2:w9.cell? ⟨SB,2,none⟩=some (.slice x.people.a bU.people.length x.people.cap):=cH L9.out.1.box rfl;have c3:w9.cell? ⟨SB,3,none⟩=some (.slice x.groups.a bU.groups.length x.groups.cap):=cH L9.out.1.box rfl;have c4:w9.cell? ⟨SB,4,none⟩=some (.slice x.lessons.a bU.lessons.length x.lessons.cap):=cH L9.out.1.box rfl;go_wp2_with fail;obtain⟨WA,Nu⟩:∃WA,WA=(w9.alloc (.cells #[.int .i64 1] 3)).alloc (.cells #[.slice (some ⟨w9.heap.size,0,none⟩) 1 1] 30):=⟨_,rfl⟩;have OT:Below w9.heap.size w9 WA:=by rw[Nu];exact((Below.refl _ _).alloc (Nat.le_refl _) _).alloc (by simp) _
 have Ta:WA.heap[w9.heap.size]?=some (.cells #[.int .i64 1] 3 (0,0)):=by rw[Nu,ae,if_neg (by simp),ae,if_pos rfl]
 have Tk:WA.heap[w9.heap.size+1]?=some (.cells #[.slice (some ⟨w9.heap.size,0,none⟩) 1 1] 30 (0,0)):=by rw[Nu,ae,if_pos (by simp)]
 rw[<-Nu];refine(Jm HI.out (L9.out.1.later OT) Ta Tk).mono ?_;rintro e wb ⟨v3,rfl,hb⟩;have Mo:=OT.trans (hb.mono OT.size);have LB:=Lh (aI (L9.out.1.later Mo) (aI (L9.out.2.1.later Mo Mo.size) (L9.out.2.2.later Mo Mo.size)));clear hb c0 c1 c2 c3 c4 L9 OT Ta Tk Nu Mo;go_upto_region 11 with fail
 obtain⟨va,vb,vo,vc⟩:=v;obtain⟨ua,ub,uo,uc⟩:=v2;obtain⟨n1,_,_,n4,_⟩:=LB.out.2.1.flat aZ;obtain⟨m1,_,_,m4,_⟩:=LB.out.2.2.flat aZ;have Ty:=(n1 (by decide)).1;have Tx:=(m1 (by decide)).1;have ln:=(n1 (by decide)).2;have lm:=(m1 (by decide)).2;dsimp only at Ty Tx n4 m4 ln lm;subst Ty Tx;have cZ:Hid (∀W,Below wb.heap.size wb W->W.cell? ⟨vb,vo,none⟩=some (.string ⟨#[104,97,114,100,32,103,111,110,101,58]⟩)/\W.cell? ⟨vb,vo+1,none⟩=some (.string ⟨#[32,32,103,111,110,101,32,40,108,32,61,32,109,97,116,104,44,32,115,32,61,32,109,111,110,49,41,58,32,97,116,40,109,97,116,104,44,32,109,111,110,49,41,32,45,62,32,104,111,117,114,40,109,111,110,49,41,32,60,32,51]⟩)/\W.cell? ⟨ub,uo,none⟩=some (.string ⟨#[116,104,101,115,101,32,99,97,110,39,116,32,98,101,32,116,111,103,101,116,104,101,114,58]⟩)/\W.cell? ⟨ub,uo+1,none⟩=some (.string ⟨#[104,97,114,100,32,103,111,110,101,58]⟩)/\W.cell? ⟨ub,uo+2,none⟩=some (.string ⟨#[32,32,103,111,110,101,32,40,108,32,61,32,109,97,116,104,44,32,115,32,61,32,109,111,110,49,41,58,32,97,116,40,109,97,116,104,44,32,109,111,110,49,41,32,45,62,32,104,111,117,114,40,109,111,110,49,41,32,60,32,51]⟩)/\W.cell? ⟨ub,uo+3,none⟩=some (.string ⟨#[116,104,97,116,32,105,115,32,97,108,108]⟩)):=Lh (fun W hB=>by
  have cv:=fun q=>hB.cell (p:=⟨vb,q,none⟩) ln;have cu:=fun q=>hB.cell (p:=⟨ub,q,none⟩) lm;exact⟨(cv _).trans (n4 0 (by decide) 0 (by decide)),(cv _).trans (n4 1 (by decide) 0 (by decide)),(cu _).trans (m4 0 (by decide) 0 (by decide)),(cu _).trans (m4 1 (by decide) 0 (by decide)),(cu _).trans (m4 2 (by decide) 0 (by decide)),(cu _).trans (m4 3 (by decide) 0 (by decide))⟩)
 clear n1 n4 m1 m4;have ew:(⟨mK.toArray⟩:ByteArray)=⟨#[103,111,110,101,32,40,108,32,61,32,109,97,116,104,44,32,115,32,61,32,109,111,110,49,41,58,32,97,116,40,109,97,116,104,44,32,109,111,110,49,41,32,45,62,32,104,111,117,114,40,109,111,110,49,41,32,60,32,51]⟩:=rfl;dsimp only at LB ⊢;simp only[ew];refine eU 55 (S:=fun W=>Below wb.heap.size wb W) (by kernel_rfl) (Below.refl _ _).drew (fun hHeld=>?_);refine dA (i:=0) rfl hHeld cZ ?_;refine dA (i:=1) rfl hHeld cZ ?_;refine dA (i:=2) rfl hHeld cZ ?_;refine dA (i:=3) rfl hHeld cZ ?_;refine dA (i:=4) rfl hHeld cZ ?_;refine dA (i:=5) rfl hHeld cZ ?_;refine dA (i:=6) rfl hHeld cZ ?_;refine dA (i:=7) rfl hHeld cZ ?_;refine dA (i:=8) rfl hHeld cZ ?_;refine dA (i:=9) rfl hHeld cZ ?_;refine dA (i:=10) rfl hHeld cZ ?_;refine dA (i:=11) rfl hHeld cZ ?_;refine dA (i:=12) rfl hHeld cZ ?_;refine dA (i:=13) rfl hHeld cZ ?_;refine dA (i:=14) rfl hHeld cZ ?_
 try simp only[show(⟨#[32,32]⟩:ByteArray)++⟨#[103,111,110,101,32,40,108,32,61,32,109,97,116,104,44,32,115,32,61,32,109,111,110,49,41,58,32,97,116,40,109,97,116,104,44,32,109,111,110,49,41,32,45,62,32,104,111,117,114,40,109,111,110,49,41,32,60,32,51]⟩=⟨#[32,32,103,111,110,101,32,40,108,32,61,32,109,97,116,104,44,32,115,32,61,32,109,111,110,49,41,58,32,97,116,40,109,97,116,104,44,32,109,111,110,49,41,32,45,62,32,104,111,117,114,40,109,111,110,49,41,32,60,32,51]⟩ from by decide+kernel]
 refine dA (i:=15) rfl hHeld cZ ?_;refine dA (i:=16) rfl hHeld cZ ?_;refine dA (i:=17) rfl hHeld cZ ?_;refine dA (i:=18) rfl hHeld cZ ?_;refine dA (i:=19) rfl hHeld cZ ?_;refine dA (i:=20) rfl hHeld cZ ?_;refine dA (i:=21) rfl hHeld cZ ?_;refine dA (i:=22) rfl hHeld cZ ?_;refine dA (i:=23) rfl hHeld cZ ?_;refine dA (i:=24) rfl hHeld cZ ?_;refine dA (i:=25) rfl hHeld cZ ?_;refine dA (i:=26) rfl hHeld cZ ?_;refine dA (i:=27) rfl hHeld cZ ?_;refine dA (i:=28) rfl hHeld cZ ?_;refine dA (i:=29) rfl hHeld cZ ?_;refine dA (i:=30) rfl hHeld cZ ?_;refine dA (i:=31) rfl hHeld cZ ?_;refine dA (i:=32) rfl hHeld cZ ?_;refine dA (i:=33) rfl hHeld cZ ?_;refine dA (i:=34) rfl hHeld cZ ?_;refine dA (i:=35) rfl hHeld cZ ?_;refine dA (i:=36) rfl hHeld cZ ?_;refine dA (i:=37) rfl hHeld cZ ?_;refine dA (i:=38) rfl hHeld cZ ?_;refine dA (i:=39) rfl hHeld cZ ?_;refine dA (i:=40) rfl hHeld cZ ?_;refine dA (i:=41) rfl hHeld cZ ?_;refine dA (i:=42) rfl hHeld cZ ?_;refine dA (i:=43) rfl hHeld cZ ?_;refine dA (i:=44) rfl hHeld cZ ?_;refine dA (i:=45) rfl hHeld cZ ?_;refine dA (i:=46) rfl hHeld cZ ?_;refine dA (i:=47) rfl hHeld cZ ?_;refine dA (i:=48) rfl hHeld cZ ?_;refine dA (i:=49) rfl hHeld cZ ?_;refine dA (i:=50) rfl hHeld cZ ?_;refine dA (i:=51) rfl hHeld cZ ?_;refine dA (i:=52) rfl hHeld cZ ?_;refine dA (i:=53) rfl hHeld cZ ?_;refine dA (i:=54) rfl hHeld cZ ?_;refine dE (rs:=[55]) (by kernel_rfl) (by simp) ?_;refine ko rfl (by kernel_rfl) (fun K hK=>?_) gV;go_simp;refine hK.out _ _ ?_;clear hK K
 try simp only[Act.put,sO,sP,sQ]
 refine kv (by kernel_rfl) ?_ _;go_wp2_with fail;exact bodyPost_ret (v:=.bool true) (by simp[results,Tryz.results8,go_sem]) rfl ⟨rfl,LB.out.1.Qe.drew⟩
theorem Aa(s:ax)(x:bH)(l:List aV)(z:aB)(xs:List dz)(xa:aB)(w:World)(hs:dh w (·<w.heap.size) s x)(hsm:SchSmall s)(hz:ak w (·<w.heap.size) (l.map aV.toD) z)(hl:l.length<=2000000)(hfr:∀r∈l,gL r)(hx:ak w (·<w.heap.size) (xs.map dz.toD) xa)(hxl:xs.length<=2000000)(hbl:∀i∈xs,i.binds.length<=2000000):
  Calls Tryz.prog 9 #[.agg (x.cells s).toArray,.slice z.a l.length z.cap,.slice xa.a xs.length xa.cap] w fun e w'=>∃b:Bool,e=.returned (.bool b)/\(b=true->l.length<=12/\xs.length<=40)/\Below w.heap.size w w':=by
 have HX:=Lh hx;have HZ:=Lh hz;have HS:=Lh hs;have Nb:=Lh hsm;have OA:=Lh hfr;have jQ:=Lh (aI hl (aI hxl hbl));obtain⟨SB,En⟩:∃SB,SB=w.heap.size:=⟨_,rfl⟩;obtain⟨W0,hW0⟩:∃W0,W0=w.alloc (.cells #[.slice x.slots.a s.slots.length x.slots.cap,.slice x.ah.a s.ah.length x.ah.cap,.slice x.people.a s.people.length x.people.cap,.slice x.groups.a s.groups.length x.groups.cap,.slice x.lessons.a s.lessons.length x.lessons.cap] 28):=⟨_,rfl⟩;have hb0:Below w.heap.size w W0:=by rw[hW0];exact(Below.refl _ _).alloc (Nat.le_refl _) _
 have k0:W0.heap[SB]?=some (.cells #[.slice x.slots.a s.slots.length x.slots.cap,.slice x.ah.a s.ah.length x.ah.cap,.slice x.people.a s.people.length x.people.cap,.slice x.groups.a s.groups.length x.groups.cap,.slice x.lessons.a s.lessons.length x.lessons.cap] 28 (0,0)):=by rw[hW0,ae,if_pos En]
 have HB:=Lh (aI hb0 k0);have HW0:=Lh (aI hW0 En);clear hx hz hs hsm hfr hl hxl hbl hb0 k0 hW0 En;simp only[bH.cells,aB.val];go_enter Tryz.func9,Tryz.ntmps9;go_wp2_with fail
 try rw[<-HW0.out.2]
 rw[<-HW0.out.1];go_loop [7] (fun i=>∃j:Nat,j<=xs.length/\i=.int .i64 j) (fun i=>xs.length-(intOf i).toNat)
 case atStart=>exact⟨0,Nat.zero_le _,rfl⟩
 case round=>
  obtain⟨j,hj,rfl⟩:=hrel;have hle:=jQ.out.2.1;obtain⟨v,hv⟩:∃v,v=(decide (j<xs.length)&&decide (j<60)):=⟨_,rfl⟩;have HV:=Lh hv;clear hv;have hcase:Hid ((j<xs.length/\j<60)∨(j<xs.length/\¬j<60)∨¬j<xs.length):=Lh (by omega);go_upto_region 2 with fail
  go_cut [16] from 9 to 25 (fun u w'=>u=.bool v/\w'=W0)
  case first=>
   rcases hcase.out with⟨p1,p2⟩|⟨p1,p2⟩|p1
   ·have hv:v=true:=by rw[HV.out];simp[p1,p2]
    subst hv;go_wp2_with fail
    all_goals(go_meet;exact⟨by first|rfl|(congr 1;simp;omega)|(exfalso;simp at lX;omega),rfl⟩)
   ·have hv:v=false:=by rw[HV.out];simp[p2]
    subst hv;have Ih:decide ((j:Int)<60)=false:=decide_eq_false (by omega);clear p2;go_wp2_with fail
    all_goals(go_meet;exact⟨by first|rfl|(congr 1;simp;omega)|(exfalso;simp at lX;omega),rfl⟩)
   ·have hv:v=false:=by rw[HV.out];simp[p1]
    subst hv;have lX:decide ((j:Int)<(xs.length:Int))=false:=decide_eq_false (by omega);clear p1;go_wp2_with fail
    all_goals(go_meet;exact⟨by first|rfl|(congr 1;simp;omega)|(exfalso;simp at lX;omega),rfl⟩)
  case rest=>
   obtain⟨rfl,rfl⟩:=hcut;cases v;rotate_left
   ·have hlt:j<xs.length:=by
     have h:=HV.out;rcases hcase.out with⟨p1,p2⟩|⟨p1,p2⟩|p1
     ·exact p1
     ·exact p1
     ·rw[decide_eq_false p1] at h;simp at h
    clear HV hcase;obtain⟨y,hy1,hy2⟩:=HX.out.O7 j hlt;obtain⟨hxa,l7⟩:=HX.out.at_ (by rw[List.length_map];omega);obtain⟨q0,q1,_⟩:=av.six hy2;have e1:=(HB.out.1.cell (p:=⟨xa.b,xa.o+j*6+1,none⟩) l7).trans q1;have hbn:xs[j].binds.length<=2000000:=jQ.out.2.2 _ (List.getElem_mem _);generalize xs[j].binds=bl at e1 hbn;obtain⟨Vy,Vz,VB,VA⟩:=xa;dsimp only at hxa e1 ⊢;subst hxa;simp only[aB.val] at e1;clear q0 q1 hy1 hy2 l7;by_cases hq:(12:Int)<(bl.length:Int)
    ·go_wp2_with fail;go_ret;exact .inl ⟨rfl,HB.out.1⟩
    ·have hq':decide ((12:Int)<(bl.length:Int))=false:=decide_eq_false hq;clear hq;go_wp2_with fail;go_round
     case rel=>exact⟨j+1,by omega,by go_num⟩
     case measure=>simp[intOf];omega
   ·clear HV hcase;go_wp2_with fail;have HB2:Hid (∀W,Below wc.heap.size wc W->Below w.heap.size w W/\(W.cell? ⟨SB,0,none⟩=some (.slice x.slots.a s.slots.length x.slots.cap)/\W.cell? ⟨SB,1,none⟩=some (.slice x.ah.a s.ah.length x.ah.cap)/\W.cell? ⟨SB,2,none⟩=some (.slice x.people.a s.people.length x.people.cap)/\W.cell? ⟨SB,3,none⟩=some (.slice x.groups.a s.groups.length x.groups.cap)/\W.cell? ⟨SB,4,none⟩=some (.slice x.lessons.a s.lessons.length x.lessons.cap))):=Lh (fun W hW=>by
     have h:=(hW.block _ (gS HB.out.2).1).trans HB.out.2;exact⟨HB.out.1.trans (hW.mono HB.out.1.size),cH h rfl,cH h rfl,cH h rfl,cH h rfl,cH h rfl⟩)
    go_loopw [8] (fun i wr=>∃j:Nat,j<=l.length/\i=.int .i64 j/\Hid (Below wc.heap.size wc wr)) (fun i _=>l.length-(intOf i).toNat)
    case atStart=>exact⟨0,Nat.zero_le _,rfl,Lh (Below.refl _ _)⟩
    case round=>
     obtain⟨j,hj,rfl,HW⟩:=hrel;have hle:=jQ.out.1;obtain⟨v,hv⟩:∃v,v=(decide (j<l.length)&&decide (j<20)):=⟨_,rfl⟩;have HV:=Lh hv;clear hv;have hcase:Hid ((j<l.length/\j<20)∨(j<l.length/\¬j<20)∨¬j<l.length):=Lh (by omega);go_upto_region 7 with fail
     go_cut [33] from 26 to 60 (fun u w'=>u=.bool v/\w'=wr)
     case first=>
      rcases hcase.out with⟨p1,p2⟩|⟨p1,p2⟩|p1
      ·have hv:v=true:=by rw[HV.out];simp[p1,p2]
       subst hv;go_wp2_with fail
       all_goals(go_meet;exact⟨by first|rfl|(congr 1;simp;omega)|(exfalso;simp at lX;omega),rfl⟩)
      ·have hv:v=false:=by rw[HV.out];simp[p2]
       subst hv;have Ih:decide ((j:Int)<20)=false:=decide_eq_false (by omega);clear p2;go_wp2_with fail
       all_goals(go_meet;exact⟨by first|rfl|(congr 1;simp;omega)|(exfalso;simp at lX;omega),rfl⟩)
      ·have hv:v=false:=by rw[HV.out];simp[p1]
       subst hv;have lX:decide ((j:Int)<(l.length:Int))=false:=decide_eq_false (by omega);clear p1;go_wp2_with fail
       all_goals(go_meet;exact⟨by first|rfl|(congr 1;simp;omega)|(exfalso;simp at lX;omega),rfl⟩)
     case rest=>
      obtain⟨rfl,rfl⟩:=hcut;cases v;rotate_left
      ·have hlt:j<l.length:=by
        have h:=HV.out;rcases hcase.out with⟨p1,p2⟩|⟨p1,p2⟩|p1
        ·exact p1
        ·exact p1
        ·rw[decide_eq_false p1] at h;simp at h
       clear HV hcase;have hbw:=(HB2.out _ HW.out).1;obtain⟨y,hy1,hy2⟩:=(HZ.out.later hbw hbw.size).Bp j hlt;obtain⟨hza,l7⟩:=HZ.out.at_ (by rw[List.length_map];omega);have hft:=OA.out _ (List.getElem_mem hlt);obtain⟨VG,Ol,Pm,VH⟩:=z;dsimp only at hza l7 hy2 ⊢;subst hza;obtain⟨q0,q1,q2,q3,q4,q5,q6,q7,q8,q9⟩:=av.ten hy2;have HK:Hid (∀W,Below wc.heap.size wc W->W.cell? ⟨Ol,Pm+j*10,none⟩=some (.string ⟨l[j].name.toArray⟩)/\W.cell? ⟨Ol,Pm+j*10+3,none⟩=some (y.each.val l[j].each.length)):=Lh (fun W hW=>by
        have hz1:Ol<wc.heap.size:=Nat.lt_of_lt_of_le l7 hbw.size;exact⟨(hW.cell (p:=⟨Ol,Pm+j*10,none⟩) hz1).trans q0,(hW.cell (p:=⟨Ol,Pm+j*10+3,none⟩) hz1).trans q3⟩)
       have H8:=Lh (Dc l[j].body.size l[j].body y.body _ (Nat.le_refl _) hft.body.size hy1.body);have hbn:l[j].each.length<=1500000:=hft.len;have hnn:l[j].name.length<=4000000:=hft.name;simp only[ja,aA.cells,aB.val] at H8 q4 q5 q6 q7 q8 q9 HK;clear hy1 hy2 hft q0 q1 q2 q3 l7 hbw;go_wp2_with fail;refine H8.out.mono ?_;rintro e w1 ⟨b1,rfl,hb1⟩;obtain⟨e0,e3⟩:=HK.out w1 hb1;have H1:=Lh (HW.out.trans (hb1.mono HW.out.size));clear H8 q4 q5 q6 q7 q8 q9 hb1 HK;cases b1
       ·go_wp2_with fail;go_ret;exact⟨false,rfl,fun h=>by simp at h,(HB2.out _ H1.out).1⟩
       generalize l[j].each.length=en at e3 hbn;generalize l[j].name=nm at e0 hnn;by_cases p1:(12:Int)<(en:Int)
       ·go_wp2_with fail;go_ret;exact⟨false,rfl,fun h=>by simp at h,(HB2.out _ H1.out).1⟩
       have lX:decide ((12:Int)<(en:Int))=false:=decide_eq_false p1;clear p1;by_cases p2:(100:Int)<(nm.length:Int)
       ·go_wp2_with fail;go_ret;exact⟨false,rfl,fun h=>by simp at h,(HB2.out _ H1.out).1⟩
       have Ih:decide ((100:Int)<(nm.length:Int))=false:=decide_eq_false p2;clear p2;go_wp2_with fail;go_round
       case rel=>exact⟨j+1,by omega,by go_num,H1⟩
       case measure=>simp[intOf];omega
      ·clear HV hcase;obtain⟨hbw,c0,c1,c2,c3,c4⟩:=HB2.out _ HW.out;have H3:=Lh (Db s x _ (HS.out.later hbw hbw.size) Nb.out);simp only[bH.cells,aB.val] at H3;clear hbw;go_wp2_with fail;refine H3.out.mono ?_;rintro e w1 ⟨b1,rfl,hb1⟩;have H1:=Lh (HW.out.trans (hb1.mono HW.out.size));clear H3 c0 c1 c2 c3 c4 hb1;have hlx:=jQ.out.2.1;cases b1
       ·go_wp2_with fail;go_ret;exact⟨false,rfl,fun h=>by simp at h,(HB2.out _ H1.out).1⟩
       by_cases p1:(l.length:Int)<=12;rotate_left
       ·have lX:decide ((l.length:Int)<=12)=false:=decide_eq_false p1;clear p1;go_wp2_with fail;go_ret;exact⟨false,rfl,fun h=>by simp at h,(HB2.out _ H1.out).1⟩
       by_cases p2:(xs.length:Int)<=40;rotate_left
       ·have Ih:decide ((xs.length:Int)<=40)=false:=decide_eq_false p2;clear p2;go_wp2_with fail;go_ret;exact⟨false,rfl,fun h=>by simp at h,(HB2.out _ H1.out).1⟩
       go_wp2_with fail;go_ret;exact⟨true,rfl,fun _=>⟨by omega,by omega⟩,(HB2.out _ H1.out).1⟩
theorem yH(d:oJ)(y:ql)(w:World)(hc:ak w (·<w.heap.size) (bD d.az) y.c)(hfx:ak w (·<w.heap.size) (bD d.fixes) y.f)(hcl:d.az.length<=2000000)(hfl:d.fixes.length<=2000000)(hcp:∀p∈d.az,p.length<=2000000)(hfp:∀p∈d.fixes,p.length<=2000000):
  Calls Tryz.prog 12 #[.agg (y.cells d).toArray] w fun e w'=>∃b:Bool,e=.returned (.bool b)/\(b=true->(d.az.length<=10/\∀p∈d.az,p.length<=20)/\d.fixes.length<=10/\∀p∈d.fixes,p.length<=20)/\Below w.heap.size w w':=by
 have HN:=Lh (aI (aI hcl hfl) (aI hcp hfp));obtain⟨YB,Ig⟩:∃YB,YB=w.heap.size:=⟨_,rfl⟩;obtain⟨W0,hW0⟩:∃W0,W0=w.alloc (.cells #[.int .i64 d.kind,.slice y.c.a d.az.length y.c.cap,.slice y.f.a d.fixes.length y.f.cap] 45):=⟨_,rfl⟩;have hb0:Below w.heap.size w W0:=by rw[hW0];exact(Below.refl _ _).alloc (Nat.le_refl _) _
 have k0:W0.heap[YB]?=some (.cells #[.int .i64 d.kind,.slice y.c.a d.az.length y.c.cap,.slice y.f.a d.fixes.length y.f.cap] 45 (0,0)):=by rw[hW0,ae,if_pos Ig]
 have e1:W0.cell? ⟨YB,1,none⟩=some (.slice y.c.a d.az.length y.c.cap):=cH k0 rfl;have e2:W0.cell? ⟨YB,2,none⟩=some (.slice y.f.a d.fixes.length y.f.cap):=cH k0 rfl;have HB:=Lh hb0;have AU:=Lh (hc.later hb0 hb0.size);have Ey:=Lh (hfx.later hb0 hb0.size);have HW0:=Lh (aI hW0 Ig);clear hc hfx hcl hfl hcp hfp hb0 k0 hW0 Ig;simp only[ql.cells];go_enter Tryz.func12,Tryz.ntmps12;go_wp2_with fail
 try rw[<-HW0.out.2]
 rw[<-HW0.out.1];go_loop [3] (fun i=>∃j:Nat,j<=d.az.length/\i=.int .i64 j/\Hid (∀p∈d.az.take j,p.length<=20)) (fun i=>d.az.length-(intOf i).toNat)
 case atStart=>exact⟨0,Nat.zero_le _,rfl,Lh (by simp)⟩
 case round=>
  obtain⟨j,hj,rfl,HP⟩:=hrel;have hle:=HN.out.1.1;obtain⟨v,hv⟩:∃v,v=(decide (j<d.az.length)&&decide (j<20)):=⟨_,rfl⟩;have HV:=Lh hv;clear hv;have hcase:Hid ((j<d.az.length/\j<20)∨(j<d.az.length/\¬j<20)∨¬j<d.az.length):=Lh (by omega);go_upto_region 2 with fail
  go_cut [13] from 5 to 22 (fun u w'=>u=.bool v/\w'=W0)
  case first=>
   rcases hcase.out with⟨p1,p2⟩|⟨p1,p2⟩|p1
   ·have hv:v=true:=by rw[HV.out];simp[p1,p2]
    subst hv;go_wp2_with fail
    all_goals(go_meet;exact⟨by first|rfl|(congr 1;simp;omega)|(exfalso;simp at lX;omega),rfl⟩)
   ·have hv:v=false:=by rw[HV.out];simp[p2]
    subst hv;have Ih:decide ((j:Int)<20)=false:=decide_eq_false (by omega);clear p2;go_wp2_with fail
    all_goals(go_meet;exact⟨by first|rfl|(congr 1;simp;omega)|(exfalso;simp at lX;omega),rfl⟩)
   ·have hv:v=false:=by rw[HV.out];simp[p1]
    subst hv;have lX:decide ((j:Int)<(d.az.length:Int))=false:=decide_eq_false (by omega);clear p1;go_wp2_with fail
    all_goals(go_meet;exact⟨by first|rfl|(congr 1;simp;omega)|(exfalso;simp at lX;omega),rfl⟩)
  case rest=>
   obtain⟨rfl,rfl⟩:=hcut;cases v;rotate_left
   ·have hlt:j<d.az.length:=by
     have h:=HV.out;rcases hcase.out with⟨p1,p2⟩|⟨p1,p2⟩|p1
     ·exact p1
     ·exact p1
     ·rw[decide_eq_false p1] at h;simp at h
    clear HV hcase;obtain⟨p,_,hp2⟩:=nO AU.out j hlt;obtain⟨hxa,_⟩:=AU.out.at_ (by rw[bD,List.length_map];omega);have hbn:=HN.out.2.1 _ (List.getElem_mem hlt);have wY:=Lh (List.take_succ_eq_append_getElem hlt);obtain⟨q,hq0⟩:∃q,q=d.az[j]:=⟨_,rfl⟩;rw[<-hq0] at hp2 hbn wY;clear hq0;obtain⟨⟨ca,cb,co,cc⟩,yf⟩:=y;dsimp only at hxa hp2 e1 e2 AU Ey HW0 ⊢;subst hxa;simp only[aB.val] at hp2;by_cases hq:(20:Int)<(q.length:Int)
    ·go_wp2_with fail;go_ret
     first|exact .inl ⟨rfl,HB.out⟩|exact⟨false,rfl,fun h=>by simp at h,HB.out⟩
    ·have hq':decide ((20:Int)<(q.length:Int))=false:=decide_eq_false hq;have HQ:=Lh hq;clear hq;go_wp2_with fail;go_round
     case rel=>exact⟨j+1,by omega,by go_num,Lh (fun r hr=>by rw[wY.out] at hr;rcases List.mem_append.1 hr with h|h;exact HP.out r h;rw[List.mem_singleton.1 h];have:=HQ.out;omega)⟩
     case measure=>simp[intOf];omega
   ·have TY:Hid (d.az.length<=10->∀p∈d.az,p.length<=20):=Lh (fun h10=>by
     have IZ:j=d.az.length:=by
      have h:=HV.out;by_cases h1:j<d.az.length
      ·rw[decide_eq_true h1,decide_eq_true (show j<20 by omega)] at h;simp at h
      ·omega
     have:=HP.out;rwa [IZ,List.take_length] at this)
    clear HV hcase;go_wp2_with fail;go_loop [4] (fun i=>∃j:Nat,j<=d.fixes.length/\i=.int .i64 j/\Hid (∀p∈d.fixes.take j,p.length<=20)) (fun i=>d.fixes.length-(intOf i).toNat)
    case atStart=>exact⟨0,Nat.zero_le _,rfl,Lh (by simp)⟩
    case round=>
     obtain⟨j,hj,rfl,HP⟩:=hrel;have hle:=HN.out.1.2;have hle1:=HN.out.1.1;obtain⟨v,hv⟩:∃v,v=(decide (j<d.fixes.length)&&decide (j<20)):=⟨_,rfl⟩;have HV:=Lh hv;clear hv;have hcase:Hid ((j<d.fixes.length/\j<20)∨(j<d.fixes.length/\¬j<20)∨¬j<d.fixes.length):=Lh (by omega);go_upto_region 7 with fail
     go_cut [31] from 23 to 40 (fun u w'=>u=.bool v/\w'=wc)
     case first=>
      rcases hcase.out with⟨p1,p2⟩|⟨p1,p2⟩|p1
      ·have hv:v=true:=by rw[HV.out];simp[p1,p2]
       subst hv;go_wp2_with fail
       all_goals(go_meet;exact⟨by first|rfl|(congr 1;simp;omega)|(exfalso;simp at lX;omega),rfl⟩)
      ·have hv:v=false:=by rw[HV.out];simp[p2]
       subst hv;have Ih:decide ((j:Int)<20)=false:=decide_eq_false (by omega);clear p2;go_wp2_with fail
       all_goals(go_meet;exact⟨by first|rfl|(congr 1;simp;omega)|(exfalso;simp at lX;omega),rfl⟩)
      ·have hv:v=false:=by rw[HV.out];simp[p1]
       subst hv;have lX:decide ((j:Int)<(d.fixes.length:Int))=false:=decide_eq_false (by omega);clear p1;go_wp2_with fail
       all_goals(go_meet;exact⟨by first|rfl|(congr 1;simp;omega)|(exfalso;simp at lX;omega),rfl⟩)
     case rest=>
      obtain⟨rfl,rfl⟩:=hcut;cases v;rotate_left
      ·have hlt:j<d.fixes.length:=by
        have h:=HV.out;rcases hcase.out with⟨p1,p2⟩|⟨p1,p2⟩|p1
        ·exact p1
        ·exact p1
        ·rw[decide_eq_false p1] at h;simp at h
       clear HV hcase;obtain⟨p,_,hp2⟩:=nO Ey.out j hlt;obtain⟨hxa,_⟩:=Ey.out.at_ (by rw[bD,List.length_map];omega);have hbn:=HN.out.2.2 _ (List.getElem_mem hlt);have wY:=Lh (List.take_succ_eq_append_getElem hlt);obtain⟨q,hq0⟩:∃q,q=d.fixes[j]:=⟨_,rfl⟩;rw[<-hq0] at hp2 hbn wY;clear hq0;obtain⟨yc,⟨ca,cb,co,cc⟩⟩:=y;dsimp only at hxa hp2 e1 e2 AU Ey HW0 ⊢;subst hxa;simp only[aB.val] at hp2;by_cases hq:(20:Int)<(q.length:Int)
       ·go_wp2_with fail;go_ret
        first|exact .inl ⟨rfl,HB.out⟩|exact⟨false,rfl,fun h=>by simp at h,HB.out⟩
       ·have hq':decide ((20:Int)<(q.length:Int))=false:=decide_eq_false hq;have HQ:=Lh hq;clear hq;go_wp2_with fail;go_round
        case rel=>exact⟨j+1,by omega,by go_num,Lh (fun r hr=>by rw[wY.out] at hr;rcases List.mem_append.1 hr with h|h;exact HP.out r h;rw[List.mem_singleton.1 h];have:=HQ.out;omega)⟩
        case measure=>simp[intOf];omega
      ·have KF:Hid (d.fixes.length<=10->∀p∈d.fixes,p.length<=20):=Lh (fun h10=>by
        have IZ:j=d.fixes.length:=by
         have h:=HV.out;by_cases h1:j<d.fixes.length
         ·rw[decide_eq_true h1,decide_eq_true (show j<20 by omega)] at h;simp at h
         ·omega
        have:=HP.out;rwa [IZ,List.take_length] at this)
       clear HV hcase;by_cases p1:(d.az.length:Int)<=10;rotate_left
       ·have lX:decide ((d.az.length:Int)<=10)=false:=decide_eq_false p1;clear p1;go_wp2_with fail;go_ret
        first|exact .inl ⟨rfl,HB.out⟩|exact⟨false,rfl,fun h=>by simp at h,HB.out⟩
       by_cases p2:(d.fixes.length:Int)<=10;rotate_left
       ·have Ih:decide ((d.fixes.length:Int)<=10)=false:=decide_eq_false p2;clear p2;go_wp2_with fail;go_ret
        first|exact .inl ⟨rfl,HB.out⟩|exact⟨false,rfl,fun h=>by simp at h,HB.out⟩
       go_wp2_with fail;go_ret;have hA:(d.az.length<=10/\∀p∈d.az,p.length<=20)/\d.fixes.length<=10/\∀p∈d.fixes,p.length<=20:=⟨⟨by omega,TY.out (by omega)⟩,by omega,KF.out (by omega)⟩
       first|exact .inr ⟨rfl,hA,HB.out⟩|exact⟨true,rfl,fun _=>hA,HB.out⟩
theorem Am(l:List Bs)(y z:aB)(w:World)(hy:ak w (·<w.heap.size) (l.map aO) y)(hz:ak w (·<w.heap.size) (l.map aO) z)(hl:l.length<=9000000000):
  Calls Tryz.prog 17 #[.slice y.a l.length y.cap,.slice z.a l.length z.cap] w fun e w'=>e=.returned (.bool true)/\Below w.heap.size w w':=by
 obtain⟨n1,_,_,n4,_⟩:=hy.flat aZ;obtain⟨m1,_,_,m4,_⟩:=hz.flat aZ;obtain⟨ya,yb,yo,yc⟩:=y;obtain⟨za,zb,zo,zc⟩:=z;dsimp only at n1 n4 m1 m4 ⊢;have HC:Hid (∀W,Below w.heap.size w W->∀j (h:j<l.length),W.cell? ⟨yb,yo+j,none⟩=some (.string ⟨l[j].toArray⟩)/\W.cell? ⟨zb,zo+j,none⟩=some (.string ⟨l[j].toArray⟩)):=Lh (fun W hW j h=>by
  have h1:=n4 j h 0 (by simp[aO,D.vals]);have h2:=m4 j h 0 (by simp[aO,D.vals]);exact⟨(hW.cell (p:=⟨yb,yo+j,none⟩) (n1 (by omega)).2).trans (by simpa[aO,D.vals] using h1),(hW.cell (p:=⟨zb,zo+j,none⟩) (m1 (by omega)).2).trans (by simpa[aO,D.vals] using h2)⟩)
 have HA:=Lh (aI n1 m1);have HL:=Lh hl;have hne:((l.length:Int) !=(l.length:Int))=false:=by simp
 clear hy hz n1 n4 m1 m4 hl;go_enter Tryz.func17,Tryz.ntmps17;go_wp2_with fail;go_loopw [5] (fun ix wr=>∃j:Nat,j<=l.length/\ix=.int .i64 j/\Hid (Below w.heap.size w wr)) (fun ix _=>l.length-(intOf ix).toNat)
 case atStart=>exact⟨0,Nat.zero_le _,rfl,Lh (Below.refl _ _)⟩
 case round=>
  obtain⟨j,hj,rfl,HB⟩:=hrel;have hll:=HL.out;by_cases hlt:j<l.length
  ·obtain⟨hc,hd⟩:=HC.out wr HB.out j hlt;have ha:=(HA.out.1 (by omega)).1;have hb:=(HA.out.2 (by omega)).1;subst ha hb;obtain⟨u,hu⟩:∃u,u=l[j]:=⟨_,rfl⟩;rw[<-hu] at hc hd;clear hu;have Vp:(u !=u)=false:=by simp
   go_wp2_with fail;go_quiet (fail);go_wp2_with fail;go_round
   case rel=>exact⟨j+1,by omega,by go_num,Lh (oK HB.out _)⟩
   case measure=>simp[intOf];omega
  ·have IZ:j=l.length:=by omega
   subst IZ;go_wp2_with fail;go_ret;exact⟨rfl,HB.out⟩
end Go.Proofs.YtncnnbmeacpboaaGreatDoor
namespace Go.aa
variable {s:ax} {l:List aV} {X:List Ins} {B sz:Nat} {w W:World} {F:Nat->Prop} {x:D} {cs:List Value} {a b:Int} {α:Type}
section
open Go.RowKit
variable {P:Program} (w:World)
theorem jG{lo:Nat}{ops:Array Oper}{rest:List Oper}{o:Oper}{act:Act}{Q:Exit->Act->World->Prop}(hgd:Region.wanted o (yielded ops act.tmps)=true)(s x:Operand)(t:TypeId)(ho:o.op=.call { callee:=.builtin .append,args:=#[s,x],argTypes:=#[t,t]})(e:TypeId)(i:TypeInfo)(z:Value)(size bytes:Nat)(ht:P.underlying t=some (.slice e))(hi:P.info? e=some i)(hz:i.zero=some z)(hsize:i.size=size)(hby:i.bytes=bytes)(hzs:z.cells.size=size)(hsz:0<size)(v u:Value){F:Nat->Prop}(xs ys:List D)(hs:act.eval s=v)(hx:act.eval x=u)(own:dK w lo F e size v xs)(src:aM w F (.sl ys) [u])(hw:bz ys=ys.length*size)(h63:xs.length+ys.length<=maxLen)(hbytes:(xs.length+ys.length)*bytes<=140737488355328)(hlo:lo<=w.heap.size)(h:∀a cap w',dK w' lo F e size (.slice a (xs.length+ys.length) cap) (xs++ys)->Below lo w w'->wpList P ops Q rest (act.put o.dst (.slice a (xs.length+ys.length) cap)) w'):wpList P ops Q (o::rest) act w:=by
 obtain⟨r,h1,h2⟩:=own;refine cz w hgd s x t ho e i z size bytes ht hi hz hsize hby hzs hsz v u F r xs ys hs hx h1 src hw h63 hbytes (fun a cap r' w' k1 k2 k3=>h a cap w' ⟨r',k1,fun k hk=>?_⟩ (k2.below hlo (fun k hk=>h2 k hk)));rcases k3 with k3|k3
 ·exact h2 k (k3▸hk)
 ·rw[k3] at hk;have:=Option.some.inj hk;omega
end
theorem eX.Oi{f:α->D}{l:List α}{b o:Nat}(h:eX w f sz l b o)(k:Nat):eX w f sz (l.take k) b o:=fun i hi=>by
 have hi':i<l.length:=by rw[List.length_take] at hi;omega
 have:=h i hi';rw[List.getElem_take];exact this
theorem ak.Oh{f:α->D}(hf:jd f sz){w:World}{F:Nat->Prop}{l:List α}{x:aB}(h:ak w F (l.map f) x)(k:Nat):ak w F ((l.take k).map f) x:=by
 obtain⟨g1,g2,g3,g4⟩:=h;refine⟨fun h0=>g1 (by rw[List.length_map,List.length_take] at h0;rw[List.length_map];omega),?_,g3,?_⟩
 ·rw[List.length_map] at g2 ⊢;rw[List.length_take];omega
 ·obtain⟨q1,q2⟩:=bq.flat hf g4;exact bq.of_flat hf (eX.Oi q1 k) (fun z hz=>q2 z (List.mem_of_mem_take hz))
theorem BC{d:oJ}(hl:l.length<=1000)(h1:d.az.length<=1000)(h2:d.fixes.length<=1000)(h3:∀p∈d.az,p.length<=1000)(h4:∀p∈d.fixes,p.length<=1000):(fP 1 3 s l X d).1.length<=2002002001:=by
 unfold fP;split
 ·simp
 ·cases fQ 1 3 d.kind with
  |none=>simp
  |some last=>
   simp only;split
   ·simp
   ·split
    ·simp
    ·split
     ·simp
     ·rename_i g1 g2;have e1:=ow (s:=s) (X:=X) (ahead:=bX) hl h1 h3 (by simpa using g1);have e2:=ow (s:=s) (X:=X) (ahead:=aK) hl h2 h4 (by simpa using g2);simp only[List.length_append,List.length_cons,List.length_nil];omega
end Go.aa
namespace Go.Proofs.YtncnnbmeacpboaaGreatDoor
open Go.RowKit Go.aa
attribute [local go_sem] Oper.semAt_some
variable {s:ax} {l:List aV} {X:List Ins} {B sz:Nat} {w W:World} {F:Nat->Prop} {x:D} {cs:List Value} {a b:Int} {α:Type}
theorem iI(l:List (List Int)):(bD l).length=l.length:=by simp[bD]
theorem nP(l:List (List Int)):bz (bD l)=(bD l).length*1:=by
 induction l with
 |nil=>rfl
 |cons a l ih=>unfold bD at ih ⊢;simp only[List.map_cons,bz,D.width,List.length_cons];omega
theorem Cy:(Tryz.prog.info? 30).map (fun i=>(i.zero,i.size,i.bytes))=some (some (.slice none 0 0),1,24):=by kernel_rfl
theorem ny(s:ax)(x:bH)(l:List aV)(z:aB)(xs:List dz)(xa:aB)(d:oJ)(y:ql)(mo:List Int)(ma:aB)(w:World)(hI:gq)(hs:dh w (·<w.heap.size) s x)(hf:iE s)(hz:ak w (·<w.heap.size) (l.map aV.toD) z)(hl:l.length<=2000000)(hfr:∀r∈l,gL r)(hx:ak w (·<w.heap.size) (xs.map dz.toD) xa)(hxl:xs.length<=1000000)(hbl:∀i∈xs,i.binds.length<=2000000)(hc:ak w (·<w.heap.size) (bD d.az) y.c)(hfx:ak w (·<w.heap.size) (bD d.fixes) y.f)(hcl:d.az.length<=2000000)(hfl:d.fixes.length<=2000000)(hcp:∀p∈d.az,p.length<=2000000)(hfp:∀p∈d.fixes,p.length<=2000000)(hm:ak w (·<w.heap.size) (aG mo) ma)(FO:mo.length<=2000000)(hg:GS w):
  Calls Tryz.prog 7 #[.agg (x.cells s).toArray,.slice z.a l.length z.cap,.slice xa.a xs.length xa.cap,.agg (y.cells d).toArray,.slice ma.a mo.length ma.cap] w fun e w'=>e=.returned (.bool true)/\Below w.heap.size w w':=by
 have HI:=Lh hI;have Ee:=Lh (aI hf hfr);have jQ:=Lh (aI hl (aI hxl hbl));have Ik:=Lh (aI hcl (aI hfl (aI hcp (aI hfp FO))));obtain⟨SB,En⟩:∃SB,SB=w.heap.size:=⟨_,rfl⟩;obtain⟨YB,Ig⟩:∃YB,YB=SB+1:=⟨_,rfl⟩;obtain⟨V0,Nt⟩:∃V0,V0=w.alloc (.cells #[.slice x.slots.a s.slots.length x.slots.cap,.slice x.ah.a s.ah.length x.ah.cap,.slice x.people.a s.people.length x.people.cap,.slice x.groups.a s.groups.length x.groups.cap,.slice x.lessons.a s.lessons.length x.lessons.cap] 28):=⟨_,rfl⟩;obtain⟨W0,hW0⟩:∃W0,W0=V0.alloc (.cells #[.int .i64 d.kind,.slice y.c.a d.az.length y.c.cap,.slice y.f.a d.fixes.length y.f.cap] 45):=⟨_,rfl⟩;have hv0:V0.heap.size=SB+1:=by rw[Nt,En];simp
 have hb0:Below w.heap.size w W0:=by rw[hW0,Nt];exact((Below.refl _ _).alloc (Nat.le_refl _) _).alloc (by simp) _
 have k0:W0.heap[SB]?=some (.cells #[.slice x.slots.a s.slots.length x.slots.cap,.slice x.ah.a s.ah.length x.ah.cap,.slice x.people.a s.people.length x.people.cap,.slice x.groups.a s.groups.length x.groups.cap,.slice x.lessons.a s.lessons.length x.lessons.cap] 28 (0,0)):=by rw[hW0,ae,if_neg (by omega),Nt,ae,if_pos En]
 have k1:W0.heap[YB]?=some (.cells #[.int .i64 d.kind,.slice y.c.a d.az.length y.c.cap,.slice y.f.a d.fixes.length y.f.cap] 45 (0,0)):=by rw[hW0,ae,if_pos (by omega)]
 have HC:Hid (∀W,Below W0.heap.size W0 W->Below w.heap.size w W/\(W.cell? ⟨SB,0,none⟩=some (.slice x.slots.a s.slots.length x.slots.cap)/\W.cell? ⟨SB,1,none⟩=some (.slice x.ah.a s.ah.length x.ah.cap)/\W.cell? ⟨SB,2,none⟩=some (.slice x.people.a s.people.length x.people.cap)/\W.cell? ⟨SB,3,none⟩=some (.slice x.groups.a s.groups.length x.groups.cap)/\W.cell? ⟨SB,4,none⟩=some (.slice x.lessons.a s.lessons.length x.lessons.cap))/\W.cell? ⟨YB,0,none⟩=some (.int .i64 d.kind)/\W.cell? ⟨YB,1,none⟩=some (.slice y.c.a d.az.length y.c.cap)/\W.cell? ⟨YB,2,none⟩=some (.slice y.f.a d.fixes.length y.f.cap)):=Lh (fun W hW=>by
  have h0:=(hW.block _ (gS k0).1).trans k0;have h1:=(hW.block _ (gS k1).1).trans k1;exact⟨hb0.trans (hW.mono hb0.size),⟨cH h0 rfl,cH h0 rfl,cH h0 rfl,cH h0 rfl,cH h0 rfl⟩,cH h1 rfl,cH h1 rfl,cH h1 rfl⟩)
 have wQ:Hid (∀W,Below w.heap.size w W->dh W (·<W.heap.size) s x/\ak W (·<W.heap.size) (l.map aV.toD) z/\ak W (·<W.heap.size) (xs.map dz.toD) xa/\GS W/\ak W (·<W.heap.size) (bD d.az) y.c/\ak W (·<W.heap.size) (bD d.fixes) y.f):=Lh (fun W hW=>⟨hs.later hW hW.size,hz.later hW hW.size,hx.later hW hW.size,hg.below hW,hc.later hW hW.size,hfx.later hW hW.size⟩);have Ow:Hid (∀W,Below w.heap.size w W->aM W (·<w.heap.size) (.sl (bD d.fixes)) [.slice y.f.a d.fixes.length y.f.cap]/\au W (·<w.heap.size) [.sl (aG mo)] [.slice ma.a mo.length ma.cap]/\ak W (·<w.heap.size) (xs.map dz.toD) xa):=Lh (fun W hW=>by
  have ha:=af hW;have h1:=(hfx.agree ha).d;have h2:=(hm.agree ha).d;rw[aB.val,bD,List.length_map] at h1;rw[aB.val,aG,List.length_map] at h2;exact⟨h1,by rw[au];exact⟨_,[],(List.append_nil _).symm,h2,by rw[au]⟩,hx.agree ha⟩)
 have RN:Hid (∀W,Below w.heap.size w W->∀j (h:j<mo.length),W.cell? ⟨ma.b,ma.o+j,none⟩=some (.int .i64 mo[j])):=Lh (fun W hW j h=>by
  obtain⟨z1,_,_,_,z5⟩:=hm.ints;exact(hW.cell (p:=⟨ma.b,ma.o+j,none⟩) (z1 (by omega)).2).trans (z5 j h))
 have RL:Hid (0<mo.length->ma.a=some ⟨ma.b,ma.o,none⟩):=Lh (fun h=>(hm.ints.1 h).1);have Ue:=Lh (show 0<xs.length->xa.a=some ⟨xa.b,xa.o,none⟩/\xa.b<w.heap.size from fun h=>hx.at_ (by rwa [List.length_map]));have HW0:=Lh (aI Nt (aI hW0 (aI En Ig)));have HZ0:=Lh (show w.heap.size<W0.heap.size from by rw[hW0];simp;omega);clear hI hs hf hz hfr hx hg hl hxl hbl hb0 k0 k1 hW0 En hc hfx hcl hfl hcp hfp hm FO Ig Nt hv0;simp only[bH.cells,aB.val,ql.cells];obtain⟨i0,hi,hz0,hz1,hz2⟩:=info_parts lU;obtain⟨i1,hi1,hy0,hy1,hy2⟩:=info_parts uI;obtain⟨i2,hi2,hx0,hx1,hx2⟩:=info_parts Cy;go_enter Tryz.func7,Tryz.ntmps7;go_upto_region 1 with fail
 try rw[<-HW0.out.2.2.1]
 rw[<-HW0.out.1]
 try rw[<-HW0.out.2.2.2]
 rw[<-HW0.out.2.1];go_wp2_with fail;refine(zT W0 HI.out (wQ.out _ (HC.out _ (Below.refl _ _)).1).2.2.2.1).mono ?_;rintro e w1 ⟨rfl,hb⟩;obtain⟨_,⟨c0,c1,c2,c3,c4⟩,c5,c6,c7⟩:=HC.out w1 hb;have HB1:=Lh hb;clear hb;go_wp2_with fail;have hSS:=wQ.out w1 (HC.out _ HB1.out).1;refine(Aa s x l z xs xa w1 hSS.1 Ee.out.1.toSchSmall hSS.2.1 jQ.out.1 Ee.out.2 hSS.2.2.1 (by have:=jQ.out.2.1;omega) jQ.out.2.2).mono ?_;rintro e w3 ⟨b,rfl,hbt,hb⟩;have HB3:=Lh (HB1.out.trans (hb.mono HB1.out.size));have Rv:=Lh hbt;clear hb hbt hSS c0 c1 c2 c3 c4 c5 c6 c7;obtain⟨_,⟨c0,c1,c2,c3,c4⟩,c5,c6,c7⟩:=HC.out w3 HB3.out;cases b
 ·go_wp2_with fail;exact bodyPost_ret (v:=.bool true) (by simp[results,Tryz.results7,go_sem]) rfl ⟨rfl,(HC.out _ HB3.out).1⟩
 go_wp2_with fail;have hSS:=wQ.out w3 (HC.out _ HB3.out).1;refine(yH d y w3 hSS.2.2.2.2.1 hSS.2.2.2.2.2 Ik.out.1 Ik.out.2.1 Ik.out.2.2.1 Ik.out.2.2.2.1).mono ?_;rintro e w4 ⟨b,rfl,hbt,hb⟩;have wM:=Lh (HB3.out.trans (hb.mono HB3.out.size));have zg:=Lh hbt;clear hb hbt hSS c0 c1 c2 c3 c4 c5 c6 c7;obtain⟨_,⟨c0,c1,c2,c3,c4⟩,c5,c6,c7⟩:=HC.out w4 wM.out;cases b
 ·go_wp2_with fail;exact bodyPost_ret (v:=.bool true) (by simp[results,Tryz.results7,go_sem]) rfl ⟨rfl,(HC.out _ wM.out).1⟩
 by_cases NP:(20:Int)<(mo.length:Int)
 ·go_wp2_with fail;exact bodyPost_ret (v:=.bool true) (by simp[results,Tryz.results7,go_sem]) rfl ⟨rfl,(HC.out _ wM.out).1⟩
 have Sz:decide ((20:Int)<(mo.length:Int))=false:=decide_eq_false NP;have hlx:l.length<=12/\xs.length<=40:=Rv.out (by first|rfl|trivial);have hdl:=zg.out (by first|rfl|trivial);have mO:=Lh (aI hlx (aI hdl (show mo.length<=20 by omega)));clear Rv zg hlx hdl NP;go_wp2_with fail;have hSS:=wQ.out w4 (HC.out _ wM.out).1;refine(qJ s x l z xs xa d y w4 HI.out hSS.1 Ee.out.1 hSS.2.1 (by have:=mO.out.1;omega) Ee.out.2 hSS.2.2.1 jQ.out.2.1 jQ.out.2.2 hSS.2.2.2.2.1 hSS.2.2.2.2.2 (by have:=mO.out.2.1.1.1;omega) (by have:=mO.out.2.1.2.1;omega) (fun p hp=>by have:=mO.out.2.1.1.2 p hp;omega) (fun p hp=>by have:=mO.out.2.1.2.2 p hp;omega) hSS.2.2.2.1).mono ?_;rintro e w5 ⟨v,rfl,hv,hb⟩;have kY:=Lh (wM.out.trans (hb.mono wM.out.size));have KC:=Lh (BC (s:=s) (l:=l) (X:=(xs.map dz.ins)) (d:=d) (by have:=mO.out.1;omega) (by have:=mO.out.2.1.1.1;omega) (by have:=mO.out.2.1.2.1;omega) (fun p hp=>by have:=mO.out.2.1.1.2 p hp;omega) (fun p hp=>by have:=mO.out.2.1.2.2 p hp;omega));have zl:=Lh (JM (yes:=1) (out:=3) (s:=s) (l:=l) (x:=(xs.map dz.ins)) (y:=d) (more:=mo));have HR1:=Lh hv;obtain⟨R,hR⟩:∃R,R=fP 1 3 s l (xs.map dz.ins) d:=⟨_,rfl⟩;simp only[<-hR] at zl KC HR1 ⊢;clear hR hv hb hSS c0 c1 c2 c3 c4 c5 c6 c7;obtain⟨A,ca⟩:=R;simp only at zl KC HR1 ⊢;obtain⟨xv,hxv,hxs⟩:=HR1.out;subst hxv;have RZ:=Lh hxs;clear hxs HR1;obtain⟨_,⟨c0,c1,c2,c3,c4⟩,c5,c6,c7⟩:=HC.out w5 kY.out;clear c0 c1 c2 c3 c4;obtain⟨ZB,Nv⟩:∃ZB,ZB=w5.heap.size:=⟨_,rfl⟩;have hyb:YB<w5.heap.size:=by have h1:=kY.out.size;have h2:=HW0.out.2.2;have h3:=HW0.out.2.1;rw[h3] at h1;simp at h1;have h4:=HW0.out.1;rw[h4] at h1;simp at h1;omega
 go_upto_region 7 with fail
 obtain⟨W6,qx⟩:∃W6,W6=w5.alloc (.cells #[.int .i64 d.kind,.slice y.c.a d.az.length y.c.cap,.slice y.f.a d.fixes.length y.f.cap] 45):=⟨_,rfl⟩;rw[<-qx,<-Nv];have hs6:W6.heap.size=ZB+1:=by rw[qx,Nv];simp
 have hb6:Below w5.heap.size w5 W6:=by rw[qx];exact aW _ _
 have k6:W6.heap[ZB]?=some (.cells #[.int .i64 d.kind,.slice y.c.a d.az.length y.c.cap,.slice y.f.a d.fixes.length y.f.cap] 45 (0,0)):=by rw[qx,ae,if_pos Nv]
 have c7:W6.cell? ⟨YB,2,none⟩=some (.slice y.f.a d.fixes.length y.f.cap):=(HC.out W6 (kY.out.trans (hb6.mono kY.out.size))).2.2.2.2;have vT:Below w.heap.size w W6:=(HC.out W6 (kY.out.trans (hb6.mono kY.out.size))).1;have QZ:YB<W6.heap.size:=by omega
 have l8:aa.Own (W6.alloc (.cells #[] 30)) (·<w.heap.size) 30 1 (.slice (some ⟨W6.heap.size,0,none⟩) 0 0) (some W6.heap.size) []:=aa.Own.lit (w:=W6) (n:=0) (cs:=[]) rfl (by unfold maxLen;omega) rfl (by rw[au]) (fun k hk=>Nat.lt_of_lt_of_le hk vT.size);have hsrc:=(Ow.out _ (vT.trans ((aW W6 (.cells #[] 30)).mono vT.size))).1;have Ku:=Lh (aI l8 (aI hsrc (aI k6 (aI vT hs6))));have KN:=Lh qx;have Ml:=Lh Nv;have Ot:=Lh hb6;have hd1:=mO.out.2.1.2.1;clear l8 hsrc k6 vT hs6 qx Nv hb6 hyb c5 c6;have hz3:ZB<W6.heap.size:=by have:=Ku.out.2.2.2.2;omega
 have Rx:Hid (∀(w7:World),aa.Mod (fun k=>some W6.heap.size=some k) (W6.alloc (.cells #[] 30)) w7->w7.heap[ZB]?=some (.cells #[.int .i64 d.kind,.slice y.c.a d.az.length y.c.cap,.slice y.f.a d.fixes.length y.f.cap] 45 (0,0))):=Lh (fun w7 hm=>ai (by rw[ae,if_neg (by omega)];exact Ku.out.2.2.1) hm (fun e=>by have:=Option.some.inj e;omega));go_upto_region 8 with(at_builtin;go_must (refine cz _ (by rfl) _ _ _ rfl 30 i2 _ 1 24 Tryz.underlying43 hi2 hx0 hx1 hx2 rfl (by decide) (.slice (some ⟨W6.heap.size,0,none⟩) 0 0) (.slice y.f.a d.fixes.length y.f.cap) (·<w.heap.size) (some W6.heap.size) [] (bD d.fixes) rfl rfl Ku.out.1 Ku.out.2.1 (nP _) (by rw[iI];unfold maxLen;simp;omega) (by rw[iI];simp;omega) ?_);intro ao cap r7 w7 hown hmod hat;rw[List.nil_append] at hown;simp only[List.length_nil,Nat.zero_add,iI] at hown ⊢;have k7:=Rx.out w7 hmod;have z7:w7.cell? ⟨ZB,2,none⟩=some (.slice y.f.a d.fixes.length y.f.cap):=cH k7 rfl;have f7:w7.frozen? ⟨ZB,2,none⟩=false:=fH k7;have H7:=Lh (aI hown (aI hmod (aI hat k7)));clear hown hmod hat k7)
 obtain⟨W7,Ie⟩:∃W7,W7=w7.setCell ⟨ZB,2,none⟩ (.slice ao d.fixes.length cap):=⟨_,rfl⟩;have O5:aa.Mod (fun k=>k=ZB) w7 W7:=by rw[Ie];exact(aa.Mod.refl (fun k=>k=ZB) w7).setCell (p:=⟨ZB,2,none⟩) (fun _=>rfl) _
 have k7:W7.heap[ZB]?=some (.cells #[.int .i64 d.kind,.slice y.c.a d.az.length y.c.cap,.slice ao d.fixes.length cap] 45 (0,0)):=by rw[Ie,aC _ H7.out.2.2.2];rfl
 have QQ:∀k,r7=some k->W6.heap.size<=k:=fun k hk=>by rcases H7.out.2.2.1 with h|h;(rw[h] at hk;have:=Option.some.inj hk;omega);(rw[h] at hk;have:=Option.some.inj hk;simp at this;omega)
 have Lf:Below w5.heap.size w5 W7:=by
  have h0:Below w5.heap.size w5 (W6.alloc (.cells #[] 30)):=Ot.out.trans ((aW W6 _).mono Ot.out.size);have h1:=iH h0 H7.out.2.1 h0.size (fun i e=>by have:=Option.some.inj e;have:=Ku.out.2.2.2.2;have:=Ml.out;omega);exact iH h1 O5 h1.size (fun i e=>by have:=Ml.out;omega)
 have NU:dK W7 W6.heap.size (·<w.heap.size) 30 1 (.slice ao d.fixes.length cap) (bD d.fixes):=⟨r7,H7.out.1.kept O5 (fun k hk e=>by have h1:=kY.out.size;have h2:=(HC.out _ kY.out).1.size;have:=Ml.out;omega) (fun k hk e=>by have:=QQ k hk;have:=Ku.out.2.2.2.2;omega),QQ⟩;have NG:Below w.heap.size w W7:=(HC.out W7 (kY.out.trans (Lf.mono kY.out.size))).1;have hs7:W6.heap.size<=W7.heap.size:=by have h1:=H7.out.2.1.size;have h2:=O5.size;simp at h1;omega
 rw[<-Ie];have Ma:=Lh (aI NU (aI (Ow.out _ NG).2.1 (aI k7 (aI Lf hs7))));have e7:W7.cell? ⟨ZB,2,none⟩=some (.slice ao d.fixes.length cap):=cH k7 rfl;have UK:ZB<W7.heap.size:=by omega
 have hd2:=mO.out.2.1.2.1;clear Ie O5 k7 QQ Lf NU NG hs7 z7 f7 c7 H7 Ku Rx KN;go_upto_region 9 with(at_builtin;go_must (refine aL (B:=W7.heap.size) rfl rfl _ _ 43 rfl 30 i2 _ 1 24 Tryz.underlying43 hi2 hx0 hx1 hx2 rfl (by decide) (.slice ao d.fixes.length cap) (bD d.fixes) (.sl (aG mo)) [.slice ma.a mo.length ma.cap] 30 rfl rfl Ma.out.1 Ma.out.2.1 Ma.out.2.2.2.2 rfl (by rw[iI];unfold maxLen;omega) (by rw[iI];omega) ?_);intro Qd KW w8 hon hb;rw[iI] at hon ⊢;have k8:=(hb.block ZB hz3).trans Ma.out.2.2.1;have z8:w8.cell? ⟨ZB,2,none⟩=some (.slice ao d.fixes.length cap):=cH k8 rfl;have f8:w8.frozen? ⟨ZB,2,none⟩=false:=fH k8;have H8:=Lh (aI hon (aI hb k8));clear hon hb k8)
 obtain⟨W8,tN⟩:∃W8,W8=w8.setCell ⟨ZB,2,none⟩ (.slice Qd (d.fixes.length+1) KW):=⟨_,rfl⟩;have QK:aa.Mod (fun k=>k=ZB) w8 W8:=by rw[tN];exact(aa.Mod.refl (fun k=>k=ZB) w8).setCell (p:=⟨ZB,2,none⟩) (fun _=>rfl) _
 have k8:W8.heap[ZB]?=some (.cells #[.int .i64 d.kind,.slice y.c.a d.az.length y.c.cap,.slice Qd (d.fixes.length+1) KW] 45 (0,0)):=by rw[tN,aC _ H8.out.2.2];rfl
 have Lg:Below w5.heap.size w5 w8:=Ma.out.2.2.2.1.trans (H8.out.2.1.mono (by have:=Ot.out.size;omega));have IX:Below w5.heap.size w5 W8:=iH Lg QK Lg.size (fun i e=>by have:=Ml.out;omega);have NH:Below w.heap.size w W8:=(HC.out W8 (kY.out.trans (IX.mono kY.out.size))).1;obtain⟨r8,g1,g2⟩:=H8.out.1;have NV:dK W8 W6.heap.size (·<w.heap.size) 30 1 (.slice Qd (d.fixes.length+1) KW) (bD (d.fixes++[mo])):=by
  have h1:=g1.kept QK (fun k hk e=>by have h1:=kY.out.size;have h2:=(HC.out _ kY.out).1.size;have:=Ml.out;omega) (fun k hk e=>by have:=g2 k hk;omega);rw[show bD (d.fixes++[mo])=bD d.fixes++[.sl (aG mo)] by simp[bD]];exact⟨r8,h1,g2⟩
 obtain⟨za,hza,hzs⟩:=NV.onto.sl (nP _);rw[aB.val,iI,List.length_append,List.length_cons,List.length_nil] at hza;have Ob:=hza;simp only[Value.slice.injEq] at Ob;obtain⟨q1,_,q2⟩:=Ob;subst q1 q2;have hSS:=wQ.out W8 NH;have hcall:=qJ s x l z xs xa ⟨d.kind,d.az,d.fixes++[mo]⟩ ⟨y.c,za⟩ W8 HI.out hSS.1 Ee.out.1 hSS.2.1 (by have:=mO.out.1;omega) Ee.out.2 hSS.2.2.1 jQ.out.2.1 jQ.out.2.2 hSS.2.2.2.2.1 hzs (by have:=mO.out.2.1.1.1;show d.az.length<=1000;omega) (by have:=mO.out.2.1.2.1;simp only[List.length_append,List.length_cons,List.length_nil];omega) (fun p hp=>by have:=mO.out.2.1.1.2 p hp;omega) (fun p hp=>by rcases List.mem_append.1 hp with h|h;(have:=mO.out.2.1.2.2 p h;omega);(rw[List.mem_singleton.1 h];have:=mO.out.2.2;omega)) hSS.2.2.2.1;simp only[bH.cells,aB.val,ql.cells,List.length_append,List.length_cons,List.length_nil,Nat.zero_add] at hcall;have dZ:=Lh hcall;have PK:=Lh (BC (s:=s) (l:=l) (X:=(xs.map dz.ins)) (d:=⟨d.kind,d.az,d.fixes++[mo]⟩) (by have:=mO.out.1;omega) (by have:=mO.out.2.1.1.1;show d.az.length<=1000;omega) (by have:=mO.out.2.1.2.1;simp only[List.length_append,List.length_cons,List.length_nil];omega) (fun p hp=>by have:=mO.out.2.1.1.2 p hp;omega) (fun p hp=>by rcases List.mem_append.1 hp with h|h;(have:=mO.out.2.1.2.2 p h;omega);(rw[List.mem_singleton.1 h];have:=mO.out.2.2;omega)));obtain⟨_,⟨c0,c1,c2,c3,c4⟩,_⟩:=HC.out W8 (kY.out.trans (IX.mono kY.out.size));have d0:W8.cell? ⟨ZB,0,none⟩=some (.int .i64 d.kind):=cH k8 rfl;have d1:W8.cell? ⟨ZB,1,none⟩=some (.slice y.c.a d.az.length y.c.cap):=cH k8 rfl;have d2:W8.cell? ⟨ZB,2,none⟩=some (.slice za.a (d.fixes.length+1) za.cap):=cH k8 rfl;have Ru:=Lh IX;rw[<-tN];clear tN QK k8 Lg IX NH g1 g2 NV hza hSS hcall z8 f8 H8 Ma UK hz3 e7 QZ hd1 hd2 hzs Ot;go_wp2_with fail;refine dZ.out.mono ?_;rintro e w9 ⟨v9,rfl,SH,FH⟩;clear c0 c1 c2 c3 c4 d0 d1 d2 dZ Ml;have JS:=Lh (Ru.out.trans (FH.mono Ru.out.size));have HR2:=Lh SH;obtain⟨R,hR⟩:∃R,R=fP 1 3 s l (xs.map dz.ins) ⟨d.kind,d.az,d.fixes++[mo]⟩:=⟨_,rfl⟩;simp only[<-hR] at zl PK HR2 ⊢;clear hR SH FH;obtain⟨B,cb⟩:=R;simp only at zl PK HR2 ⊢;obtain⟨yv,hyv,hys⟩:=HR2.out;subst hyv;have Ug:=Lh hys;clear hys HR2;have hd:(ca≠0∨cb≠0)∨(ca=0/\cb=0):=by omega
 have HD:=Lh hd;clear hd;by_cases ha0:ca=0;rotate_left
 ·have hp:=zl.out.1 (.inl ha0);have ha1:(ca !=0)=true:=by simpa using ha0
  have hb1:(cb !=0)=true:=by simpa using hp.1
  have hB:=hp.2;subst hB;clear ha0 hp;go_wp2_with fail;exact bodyPost_ret (v:=.bool true) (by simp[results,Tryz.results7,go_sem]) rfl ⟨rfl,(HC.out _ (kY.out.trans (JS.out.mono kY.out.size))).1⟩
 subst ha0;by_cases hb0:cb=0;rotate_left
 ·have hp:=zl.out.1 (.inr hb0);have hb1:(cb !=0)=true:=by simpa using hp.1
  have hB:=hp.2;subst hB;clear hb0 hp;go_wp2_with fail;exact bodyPost_ret (v:=.bool true) (by simp[results,Tryz.results7,go_sem]) rfl ⟨rfl,(HC.out _ (kY.out.trans (JS.out.mono kY.out.size))).1⟩
 subst hb0;obtain⟨hodd,Sw,a,last,hA,hB⟩:=zl.out.2 rfl rfl;have M6:Hid (∀(i:Nat) (hi:i<mo.length),0<=mo[i]/\mo[i]<(xs.length:Int)):=Lh (fun i hi=>by
  unfold dn at hodd;have h2:=List.any_eq_false.1 hodd _ (List.getElem_mem hi);rw[List.length_map] at h2;simp at h2;exact⟨h2.1,h2.2⟩)
 have RD:=Lh Sw;subst hA;have wN:=Lh hB;clear hB Sw hodd zl HD;have hal:(a++[last]).length=a.length+1:=by simp
 have hla:=KC.out;rw[hal] at hla ⊢;obtain⟨al,Lc⟩:∃al,al=a.length:=⟨_,rfl⟩;rw[<-Lc] at hla ⊢;have AR:=Lh Lc;clear hal Lc;go_wp2_with fail;have NR:=mO.out.2.2;go_loopw [16,17] (fun pv i wr=>∃q:Nat,q<=mo.length/\i=.int .i64 q/\Hid (Below w9.heap.size w9 wr)/\Hid (dK wr w9.heap.size (·<w.heap.size) 35 6 pv ((pk xs (mo.take q)).map dz.toD))) (fun _ i _=>mo.length-(intOf i).toNat)
 case atStart=>exact⟨0,Nat.zero_le _,rfl,Lh (Below.refl _ _),Lh (dK.nil _ _ _ _ _ (fun k hk=>by have h1:=(HC.out _ (kY.out.trans (JS.out.mono kY.out.size))).1.size;omega))⟩
 case round=>
  obtain⟨q,hq,rfl,HB,HP⟩:=hrel;have hbw:Below w.heap.size w wr:=(HC.out _ (kY.out.trans (JS.out.mono kY.out.size))).1.trans (HB.out.mono (HC.out _ (kY.out.trans (JS.out.mono kY.out.size))).1.size);have UI:=(HC.out _ (kY.out.trans (JS.out.mono kY.out.size))).1.size;by_cases hlt2:q<mo.length
  ·obtain⟨oa,fM,hof⟩:=HP.out.form;subst hof;rw[List.length_map] at HP ⊢;have hpk:(pk xs (mo.take q)).length<=20:=Nat.le_trans (zY _ _) (by rw[List.length_take];omega);obtain⟨nn,hnn⟩:∃nn,nn=(pk xs (mo.take q)).length:=⟨_,rfl⟩;rw[<-hnn] at HP hpk ⊢;have kZ:=Lh (aI hnn hpk);clear hnn;have b0:=RN.out wr hbw q hlt2;have NQ:=RL.out (by omega);obtain⟨hp0,hp1⟩:=M6.out q hlt2;obtain⟨k,hk⟩:∃k:Nat,mo[q]=(k:Int):=⟨(mo[q]).toNat,by omega⟩;have hkx:k<xs.length:=by omega
   obtain⟨yi,hyi,tQ⟩:=(Ow.out wr hbw).2.2.O7 k hkx;obtain⟨hxa,hxb⟩:=Ue.out (by omega);obtain⟨q0,q1,q2,q3,q4,q5⟩:=av.six tQ;have HD:=Lh (show au wr (·<w.heap.size) [(xs[k]).toD] (yi.cells xs[k]) by rw[au];exact⟨_,[],(List.append_nil _).symm,gm.iff.2 ⟨yi,rfl,hyi⟩,by rw[au]⟩);have KF:=Lh (Bl (xs:=xs) hlt2 hk hkx);have k1:(k:Int)<(xs.length:Int):=by omega
   have k2:decide ((k:Int)<0)=false:=decide_eq_false (by omega);have k3:decide ((xs.length:Int)<=(k:Int))=false:=decide_eq_false (by omega);rw[hk] at b0;rw[NQ,hxa];have Qx:=HB.out.size;clear hp0 hp1 hyi tQ hxa hxb hk hbw NQ;generalize xs[k]=ik at q0 q1 q2 q3 q4 q5 HD KF;clear hkx;obtain⟨rule,bi,tr⟩:=ik;simp only[jV.cells,aB.val] at q0 q1 q2 q3 q4 q5 HD;go_wp2_with (at_builtin;go_must (refine aL (B:=wr.heap.size) rfl rfl _ _ 38 rfl 35 i1 _ 6 80 Tryz.underlying38 hi1 hy0 hy1 hy2 rfl (by decide) (.slice oa nn fM) ((pk xs (mo.take q)).map dz.toD) (dz.toD ⟨rule,bi,tr⟩) [.int .i64 rule,.slice yi.b.a bi.length yi.b.cap,.int .i64 yi.k0,.int .i64 yi.k1,.int .i64 yi.k2,.slice yi.a yi.n yi.cap] 35 rfl rfl HP.out HD.out Qx (dz.width _) (by rw[List.length_map,<-kZ.out.1];have:=kZ.out.2;unfold maxLen;omega) (by rw[List.length_map,<-kZ.out.1];have:=kZ.out.2;omega) ?_);intro ao cap Bz hon xL;rw[List.length_map,<-kZ.out.1] at hon ⊢;have jS:=Lh (aI hon (HB.out.trans xL));clear hon xL);refine⟨⟨q+1,by omega,by go_num,Lh jS.out.2,Lh ?_⟩,by simp[intOf];omega⟩;rw[KF.out,List.map_append];exact jS.out.1
  ·have QP:q=mo.length:=by omega
   subst QP;rw[List.take_length] at HP;obtain⟨pa,Mt,hps⟩:=HP.out.onto.sl (by rw[mZ];simp);rw[aB.val,List.length_map] at Mt;subst Mt;have hpk:(pk xs mo).length<=20:=Nat.le_trans (zY _ _) NR;obtain⟨jU,rfl⟩:∃jU,jU=wr:=⟨wr,rfl⟩;have K7:=JS.out.trans (HB.out.mono JS.out.size);have hSS:=wQ.out jU hbw;have hcall:=uJ s x l z (pk xs mo) pa jU HI.out hSS.1 Ee.out.1 hSS.2.1 jQ.out.1 Ee.out.2 hps (by omega) (fun i hi=>jQ.out.2.2 i (Gv hi)) hSS.2.2.2.1;rw[Gu] at hcall;simp only[bH.cells,aB.val] at hcall;have dZ:=Lh hcall;obtain⟨_,⟨c0,c1,c2,c3,c4⟩,_⟩:=HC.out jU (kY.out.trans (K7.mono kY.out.size));have MG:=Lh K7;generalize (pk xs mo).length=np at dZ hpk ⊢;clear hSS hcall hps hbw K7 hlt2 hq HP Ow RN M6 RL NR;go_wp2_with fail;refine dZ.out.mono ?_;rintro e oH ⟨v12,rfl,QX,xM⟩;clear c0 c1 c2 c3 c4 dZ;obtain⟨x2,hx2,Jd⟩:=QX;have Ii:=Lh (MG.out.trans (xM.mono MG.out.size));have PL:Hid ((fU s l (dx (xs.map dz.ins) mo)).1.length<=1001000):=Lh (by have h2:=pI (s:=s) (l:=l) (Y:=dx (xs.map dz.ins) mo) (by have:=mO.out.1;omega) (Nat.le_trans (List.length_filterMap_le _ _) (by have:=mO.out.2.2;omega));unfold fU;split;(simp);exact h2);have KA:=RD.out;obtain⟨R,hR⟩:∃R,R=fU s l (dx (xs.map dz.ins) mo):=⟨_,rfl⟩;rw[<-hR] at KA hx2 Jd wN PL ⊢;have JR:=Lh xM;clear hR RD xM;obtain⟨C,cc⟩:=R;simp only at KA hx2 Jd wN PL ⊢;subst KA hx2;have K6:=RZ.out.later (Ii.out) Ii.out.size;have Pq:Hid (∀W,Below oH.heap.size oH W->aM W (·<oH.heap.size) (.sl (a.map aO)) [.slice xv.a al xv.cap]/\aM W (·<oH.heap.size) (.sl (C.map aO)) [.slice x2.a C.length x2.cap]):=Lh (fun W hW=>by
    have h1:=((K6.Oh aZ al).agree (af hW)).d;rw[show(a++[last]).take al=a by rw[AR.out,List.take_left],aB.val,List.length_map,<-AR.out] at h1;have h2:=((Jd.mono (fun k hk=>hk.2)).agree (af hW)).d;rw[aB.val,List.length_map] at h2;exact⟨h1,h2⟩)
   obtain⟨n1,n2,_,n4,n5⟩:=K6.flat aZ;have hcap:al+1<=xv.cap:=by have:=AR.out;simp at n2;omega
   have hxa:=(n1 (by simp)).1;have RI:Hid (∀W,Below oH.heap.size oH W->W.cell? ⟨xv.b,xv.o+al,none⟩=some (.string ⟨last.toArray⟩)):=Lh (fun W hW=>by
    have h1:=n4 al (by simp;have:=AR.out;omega) 0 (by simp[aO,D.vals]);have h2:=(n1 (by simp)).2;refine(hW.cell (p:=⟨xv.b,xv.o+al,none⟩) h2).trans ?_;have e:(a++[last])[al]'(by simp;have:=AR.out;omega)=last:=by simp[AR.out]
    rw[e] at h1;simpa[aO,D.vals] using h1)
   have Mg:Hid (last.length<=maxLen):=Lh (by have:=n5 last (by simp);simpa[aO,D.fine,ByteArray.size] using this);have l8:aa.Own (oH.alloc (.cells #[] 9)) (·<oH.heap.size) 9 1 (.slice (some ⟨oH.heap.size,0,none⟩) 0 0) (some oH.heap.size) []:=aa.Own.lit (w:=oH) (n:=0) (cs:=[]) rfl (by unfold maxLen;omega) rfl (by rw[au]) (fun k hk=>hk);have TR:=Lh (show dK (oH.alloc (.cells #[] 9)) oH.heap.size (·<oH.heap.size) 9 1 (.slice (some ⟨oH.heap.size,0,none⟩) 0 0) [] from⟨_,l8,fun k hk=>by have:=Option.some.inj hk;omega⟩);obtain⟨VC,U6,U7,Rp⟩:=xv;dsimp only at hxa Pq RI hcap ⊢;subst hxa;have hcap2:al<=Rp:=by omega
   have Sr:¬Rp=0:=by omega
   clear l8 K6 n1 n2 n4 n5 Jd RZ hpk;have hlc:=PL.out;have Ux:((al+1:Nat):Int)-1=(al:Int):=by omega
   have h00:(([]:List D)).length=0:=rfl;have xO:(a.map aO).length=al:=by rw[List.length_map,AR.out]
   go_upto_region 23 with(at_builtin;go_must (refine jG _ (by rfl) _ _ _ rfl 9 i0 _ 1 16 Tryz.underlying47 hi hz0 hz1 hz2 rfl (by decide) (.slice (some ⟨oH.heap.size,0,none⟩) 0 0) (.slice (some ⟨U6,U7,none⟩) al Rp) [] (a.map aO) rfl rfl TR.out (Pq.out _ (aW _ _)).1 (by rw[bC aZ];simp) (by rw[h00,xO];unfold maxLen;omega) (by rw[h00,xO];omega) (by simp) ?_);intro ao cap Tz hon hb;rw[h00,xO,Nat.zero_add,List.nil_append] at hon;rw[h00,xO,Nat.zero_add];have MF:=Lh (aI hon ((aW oH (.cells #[] 9)).trans hb));clear hon hb)
   have QT:=MF.out.2.size;go_upto_region 24 with(at_builtin;go_must (refine aL (B:=Tz.heap.size) rfl rfl _ _ 47 rfl 9 i0 _ 1 16 Tryz.underlying47 hi hz0 hz1 hz2 rfl (by decide) (.slice ao al cap) (a.map aO) (aO aK) [.string ⟨aK.toArray⟩] 9 rfl rfl MF.out.1 (jJ (by decide+kernel)) QT rfl (by rw[xO];unfold maxLen;omega) (by rw[xO];omega) ?_);intro Nj cap2 Vv hon hb;rw[xO] at hon ⊢;have Om:=Lh (aI hon (MF.out.2.trans hb));clear hon hb)
   have QU:=Om.out.2.size;have I4:(a.map aO++[aO aK]).length=al+1:=by rw[List.length_append,xO];rfl
   have Bd:(C.map aO).length=C.length:=List.length_map ..;go_upto_region 25 with(at_builtin;go_must (refine jG _ (by rfl) _ _ _ rfl 9 i0 _ 1 16 Tryz.underlying47 hi hz0 hz1 hz2 rfl (by decide) (.slice Nj (al+1) cap2) (.slice x2.a C.length x2.cap) (a.map aO++[aO aK]) (C.map aO) rfl rfl Om.out.1 (Pq.out _ Om.out.2).2 (by rw[bC aZ];simp) (by rw[I4,Bd];unfold maxLen;omega) (by rw[I4,Bd];omega) QU ?_);intro Ui Qf TA hon hb;rw[I4,Bd] at hon ⊢;have Oo:=Lh (aI hon (Om.out.2.trans hb));clear hon hb)
   have QV:=Oo.out.2.size;have Lu:((a.map aO++[aO aK])++C.map aO).length=al+1+C.length:=by rw[List.length_append,I4,Bd]
   have hls:=RI.out TA Oo.out.2;have Uy:(al:Int)<((al+1:Nat):Int):=by omega
   go_upto_region 26 with(at_builtin;go_must (refine aL (B:=TA.heap.size) rfl rfl _ _ 47 rfl 9 i0 _ 1 16 Tryz.underlying47 hi hz0 hz1 hz2 rfl (by decide) (.slice Ui (al+1+C.length) Qf) ((a.map aO++[aO aK])++C.map aO) (aO last) [.string ⟨last.toArray⟩] 9 rfl rfl Oo.out.1 (jJ Mg.out) QV rfl (by rw[Lu];unfold maxLen;omega) (by rw[Lu];omega) ?_);intro Uj cap4 w16 hon hb;rw[Lu] at hon ⊢;have Pn:=Lh (aI hon (Oo.out.2.trans hb));clear hon hb)
   have hwant:((a.map aO++[aO aK])++C.map aO)++[aO last]=B.map aO:=by rw[wN.out];simp
   obtain⟨wa,Kl,hws⟩:=(show dK w16 oH.heap.size (·<oH.heap.size) 9 1 (.slice Uj (al+1+C.length+1) cap4) (B.map aO) by rw[<-hwant];exact Pn.out.1).onto.sl (by rw[bC aZ];simp);have hbl:B.length=al+1+C.length+1:=by rw[wN.out];simp;have:=AR.out;omega
   rw[aB.val,List.length_map] at Kl;simp only[Value.slice.injEq] at Kl;obtain⟨e1,-,e3⟩:=Kl;subst e1 e3;have FI:Below w9.heap.size w9 w16:=by have h1:=HB.out;exact(h1.trans ((JR.out).mono h1.size)).trans (Pn.out.2.mono (by have h2:=(h1.trans ((JR.out).mono h1.size)).size;exact h2))
   have hcall:=Am B yv wa w16 (Ug.out.later FI FI.size) hws (by have:=PK.out;omega);rw[hbl] at hcall ⊢;have dZ:=Lh hcall;have hfin:=(HC.out _ (kY.out.trans ((Ii.out.trans (Pn.out.2.mono Ii.out.size)).mono kY.out.size))).1;have MR:=Lh hfin;clear hcall hwant hws hbl FI hfin;go_wp2_with fail;refine dZ.out.mono ?_;rintro e Vw ⟨rfl,Nz⟩;have Ps:=Lh (MR.out.trans (Nz.mono MR.out.size));clear Nz;go_wp2_with fail;exact bodyPost_ret (v:=.bool true) (by simp[results,Tryz.results7,go_sem]) rfl ⟨rfl,Ps.out⟩
end Go.Proofs.YtncnnbmeacpboaaGreatDoor
