/- Parts of the proof. -/
import Derived.Lib.AtoiErrMem
import Derived.Test.YtncnnbmeacpboaaGreatDoorLIs18
import Derived.Test.YtncnnbmeacpboaaGreatDoorLIs13
set_option maxHeartbeats 4000000
set_option maxRecDepth 100000
set_option linter.unusedVariables false
set_option linter.unusedSimpArgs false
namespace Go.Proofs.YtncnnbmeacpboaaGreatDoor
open Go.RowKit Go.aa
attribute [local go_sem] Oper.semAt_some
theorem Dv(l:Bs)(n:Nat)(hn:l.length=n)(W:World):∃cap W',(convert 9 71 (.string ⟨l.toArray⟩)).run Tryz.prog W=.ok (.slice (some ⟨W.heap.size,0,none⟩) n cap) W'/\SB W' W'.heap.size l (some ⟨W.heap.size,0,none⟩) W.heap.size 0/\n<=cap/\Below W.heap.size W W':=by
 subst hn;have hcv:=Lib.run_convert_string_bytes (P:=Tryz.prog) W 9 71 5 ⟨l.toArray⟩ Tryz.underlying9 Tryz.underlying71 Tryz.underlying5;rw[size_mk] at hcv;exact⟨_,_,hcv,SB.FN W 5 l,grownCap_ge _ _ _ _,Lib.bytesWorld_below W 5 ⟨l.toArray⟩⟩
theorem Iy:∀g,wf g->eQ g:=by
 refine E9 ?_ ?_ ?_ ?_ ?_ ?_
 ·rintro k (rfl|rfl)
  ·exact OU
  ·exact OV
 ·intro k a b h1 h2 ha hb;exact ED (k-3).toNat (by omega) k (by omega) ⟨2,a,0⟩ ⟨2,b,0⟩ (by simp[aA,ha]) (by simp[aA,hb])
 ·intro s t u _ ht hu;exact OW s t u ht hu
 ·intro g _ ih;exact Mo g ih
 ·intro k g g' h1 h2 _ _ ih1 ih2;have:k=11∨k=12∨k=13:=by omega
  rcases this with rfl|rfl|rfl
  ·exact Mq g g' ih1 ih2
  ·exact Mr g g' ih1 ih2
  ·exact Ms g g' ih1 ih2
 ·intro k n b bs g h1 h2 hn hm hz hl hb hbs _ ih;have hbl:(b::bs).length<=6:=by simp;omega
  have rD:(b::bs).all aL=true:=by simp[hb];simpa using hbs
  have:k=14∨k=15∨k=16∨k=17:=by omega
  obtain⟨m,rfl⟩:=Int.eq_ofNat_of_zero_le hn;rcases this with rfl|rfl|rfl|rfl
  ·exact Mt _ _ g ih hbl rD
  ·exact Mv _ _ g ih hbl rD
  ·exact Mw m (by omega) _ g ih hbl rD
  ·exact Mx m (by omega) _ g ih hbl rD
theorem Il(f:ae)(x:aC)(w:World)(hx:aB w (·<w.heap.size) f x)(hf:gZ f):
  Calls Tryz.prog 28 #[.agg #[.int .i64 f.kind,.string ⟨f.name.toArray⟩,.int .i64 f.n,.slice x.t.a f.terms.length x.t.cap,.slice x.b.a f.binds.length x.b.cap,.slice x.l.a f.l.length x.l.cap]] w (gu w.heap.size w (dx f)):=by
 obtain⟨W0,hW0⟩:∃W0,W0=w.alloc (.cells #[.int .i64 f.kind,.string ⟨f.name.toArray⟩,.int .i64 f.n,.slice x.t.a f.terms.length x.t.cap,.slice x.b.a f.binds.length x.b.cap,.slice x.l.a f.l.length x.l.cap] 64):=⟨_,rfl⟩;obtain⟨B,hB⟩:∃B,B=w.heap.size:=⟨_,rfl⟩;have hb0:Below w.heap.size w W0:=by rw[hW0];exact aG _ _
 have hk:=heap_alloc_new w (.cells #[.int .i64 f.kind,.string ⟨f.name.toArray⟩,.int .i64 f.n,.slice x.t.a f.terms.length x.t.cap,.slice x.b.a f.binds.length x.b.cap,.slice x.l.a f.l.length x.l.cap] 64);rw[<-hW0,<-hB] at hk;have HK:=Lh hk;have HW:=Lh (aI hW0 hB);have HB0:=Lh hb0;have hck:=sW f x W0 hf.size hf.nodes (hx.later hb0 hb0.size);simp only[gB,aC.cells,aK.val] at hck;have Dh:=Lh hck;have HT:=Lh (fun(W:World) (hW:Below w.heap.size w W) (hc:aM f=0)=>Iy f (ic hc).1 x W (hx.later hW hW.size) (by have h1:=wK f (ic hc).1;have h2:=(ic hc).2.1;omega));obtain⟨R,hR⟩:∃R,R=dx f:=⟨_,rfl⟩;rw[<-hR];have HR:Hid (R=if aM f≠0 then([],aM f) else if 16384<(bL f).length then([],2) else(bL f,0)):=Lh (by rw[hR];rfl);obtain⟨fc,hfc⟩:∃fc,fc=aM f:=⟨_,rfl⟩;rw[<-hfc] at Dh HR HT;clear hW0 hB hb0 hk hck hx hf hR hfc;have p0:W0.cell? ⟨B,0,none⟩=some (.int .i64 f.kind):=cH HK.out rfl;have p1:W0.cell? ⟨B,1,none⟩=some (.string ⟨f.name.toArray⟩):=cH HK.out rfl;have p2:W0.cell? ⟨B,2,none⟩=some (.int .i64 f.n):=cH HK.out rfl;have p3:W0.cell? ⟨B,3,none⟩=some (.slice x.t.a f.terms.length x.t.cap):=cH HK.out rfl;have p4:W0.cell? ⟨B,4,none⟩=some (.slice x.b.a f.binds.length x.b.cap):=cH HK.out rfl;have p5:W0.cell? ⟨B,5,none⟩=some (.slice x.l.a f.l.length x.l.cap):=cH HK.out rfl;go_enter Tryz.func28,Tryz.ntmps28;go_wp2_with fail;rw[<-HW.out.1,<-HW.out.2];refine Dh.out.mono ?_;rintro e w1 ⟨rfl,hb1⟩;have D1:=Lh (HB0.out.trans (hb1.mono HB0.out.size));have hk1:=(hb1.block B (gS HK.out).1).trans HK.out;clear hb1 Dh p0 p1 p2 p3 p4 p5;have p0:w1.cell? ⟨B,0,none⟩=some (.int .i64 f.kind):=cH hk1 rfl;have p1:w1.cell? ⟨B,1,none⟩=some (.string ⟨f.name.toArray⟩):=cH hk1 rfl;have p2:w1.cell? ⟨B,2,none⟩=some (.int .i64 f.n):=cH hk1 rfl;have p3:w1.cell? ⟨B,3,none⟩=some (.slice x.t.a f.terms.length x.t.cap):=cH hk1 rfl;have p4:w1.cell? ⟨B,4,none⟩=some (.slice x.b.a f.binds.length x.b.cap):=cH hk1 rfl;have p5:w1.cell? ⟨B,5,none⟩=some (.slice x.l.a f.l.length x.l.cap):=cH hk1 rfl;clear hk1;by_cases hc:fc=0;rotate_left
 ·have hc2:(fc==0)=false:=by simpa using hc
  have HE:=HR.out;rw[if_pos hc] at HE;have HE2:=Lh HE;clear HE HR HT;go_wp2_with fail;go_ret2;exact gu.mk' HE2.out (iK.nil _) D1.out
 subst hc;have HE:=HR.out;rw[if_neg (by decide)] at HE;have HT2:=Lh (HT.out w1 D1.out rfl);obtain⟨s,hs⟩:∃s,s=bL f:=⟨_,rfl⟩;rw[<-hs] at HE HT2;have wS:=Lh HE;clear HE HR HT hs;go_wp2_with fail;refine HT2.out.mono ?_;rintro e w2 ⟨rfl,hb2⟩;have D2:=Lh (D1.out.trans (hb2.mono D1.out.size));clear hb2 HT2 p0 p1 p2 p3 p4 p5;by_cases hbig:16384<s.length
 ·have HE2:=wS.out;rw[if_pos hbig] at HE2;have U0:=Lh HE2;have hbig':decide ((16384:Int)<(s.length:Int))=true:=by simp;omega
  clear HE2 wS hbig;go_wp2_with fail;go_ret2;exact gu.mk' U0.out (iK.nil _) D2.out
 ·have HE2:=wS.out;rw[if_neg hbig] at HE2;have U0:=Lh HE2;have hbig':decide ((16384:Int)<(s.length:Int))=false:=by simp;omega
  obtain⟨cap,W',hcv,hsb,hcp,hbW⟩:=Dv s s.length rfl w2;have H3:=Lh (aI hsb (aI hcp (D2.out.trans (hbW.mono D2.out.size))));clear HE2 wS hbig hsb hcp hbW;go_wp2_with fail;go_ret2;exact gu.mk' U0.out ⟨_,_,_,_,rfl,H3.out.1,H3.out.2.1⟩ H3.out.2.2
end Go.Proofs.YtncnnbmeacpboaaGreatDoor
