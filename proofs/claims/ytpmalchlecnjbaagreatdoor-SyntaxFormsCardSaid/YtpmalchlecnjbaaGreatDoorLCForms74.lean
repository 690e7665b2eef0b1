/- Joined texts: RYg, RYh, RYi. -/
import Derived.Test.YtpmalchlecnjbaaGreatDoorLCForms73
import Derived.Test.YtpmalchlecnjbaaGreatDoorV38
import Derived.Test.YtpmalchlecnjbaaGreatDoorLCForms72
set_option maxHeartbeats 16000000
set_option maxRecDepth 100000
set_option linter.unusedVariables false
set_option linter.unusedSimpArgs false
/- The reference's reader: or, and, formula, bracketed. (written by tools/gen_ryg.py) -/
namespace Go.Chalk
open Go.RowKit
def mu (L:List Tok) (n:Nat) (bad:Bool):Nat:=if bad then 0 else L.length - n
theorem ROut.mu {α:Type} {L:List Tok} {p:List Tok->Rs α} {n n':Nat} {v:α} {b b':Bool} (h:ROut L p n b v n' b') (hp:∀ l a r,p l=.ok a r->r.length<=l.length):mu L n' b'<=mu L n b:=by
 cases b' with
 | true=>exact Nat.zero_le _
 | false =>
  obtain ⟨rfl,h2⟩:=h.good
  have:=hp _ _ _ h2
  rw [List.length_drop,List.length_drop] at this
  exact this
theorem ROut.mu_lt {α:Type} {L:List Tok} {p:List Tok->Rs α} {n n':Nat} {v:α} {b':Bool} (h:ROut L p n false v n' b') (hn:n<L.length) (hp:∀ l a r,p l=.ok a r->r.length<l.length):Chalk.mu L n' b'<Chalk.mu L n false:=by
 cases b' with
 | true=>show 0<L.length - n;omega
 | false =>
  obtain ⟨_,h2⟩:=h.good
  have:=hp _ _ _ h2
  rw [List.length_drop,List.length_drop] at this
  exact this
def rdMu (w:World) (P:Nat):Nat:=match w.heap[P]? with
 | some (.cells cs _ _)=>(match cs.getD 0 undef,cs.getD 1 undef,cs.getD 2 undef with
  | .slice _ n _,.int _ i,.bool b=>if b then 0 else n - i.toNat
  | _,_,_=>0)
 | _=>0
def LCont (L:List Tok) (q:List Tok->Rs Frm) (Ls:Frm->List Tok->Rs Frm) (n:Nat) (bad:Bool) (f:Frm) (nj:Nat) (bj:Bool):Prop:=∀ x n' b',ROut L (Ls f) nj bj x n' b'->ROut L q n bad x n' b'
end Go.Chalk
namespace Go.Proofs.YtpmalchlecnjbaaGreatDoor
open Go.RowKit Go.Chalk
attribute [local go_sem] Oper.semAt_some
theorem RdAt.mu {w:World} {P:Nat} {L:List Tok} {n:Nat} {bad:Bool} (h:RdAt w P L n bad):rdMu w P=Chalk.mu L n bad:=by
 obtain ⟨b,o,cap,hx⟩:=h.open_
 unfold rdMu
 rw [hx]
 show (if bad then 0 else L.length - (n:Int).toNat)=_
 rw [Int.toNat_natCast];rfl
theorem ror_any7 (P:Nat) (L:List Tok) (m:Nat) (hF:∀ n' b',Chalk.mu L n' b'<=m->ROk P L 138 parAnd n' b') (n:Nat) (bad:Bool) (hmu:Chalk.mu L n bad<=m):ROk P L 76 parOr n bad:=by
 intro w h
 obtain ⟨RB,hRB⟩:∃ RB,RB=w.heap.size:=⟨_,rfl⟩
 obtain ⟨w0,hw0⟩:∃ w0,w0=w.alloc (.cells #[.int .i64 0,.string ⟨#[]⟩,.int .i64 0,.slice none 0 0,.slice none 0 0,.slice none 0 0] 28):=⟨_,rfl⟩
 have hb0:Below w.heap.size w w0:=by rw [hw0];exact below_new _ _
 have hbx:w0.heap[RB]?=some (.cells #[.int .i64 0,.string ⟨#[]⟩,.int .i64 0,.slice none 0 0,.slice none 0 0,.slice none 0 0] 28 (0,0)):=by rw [hw0,hRB];exact heap_alloc_new _ _
 have hPR:P<RB:=by rw [hRB];exact h.lt
 have hs0:w0.heap.size=RB+1:=by rw [hw0,hRB];simp
 have HE:=Lh (fun (W':World) (hW:Chalk.Mod (fun k=>k=P) w0 W')=>rdres6 hbx hPR W' hW)
 have HM0:Hid (Chalk.Mod (fun k=>k=P) w w0):=Lh (Chalk.Mod.of_below hb0)
 have HS0:=Lh hs0
 have HRB:=Lh hRB
 have HPR:=Lh hPR
 have HNL:=Lh h.place
 have HTK:=Lh h.toks
 have G0:=Lh (aI (h.below hb0) (Chalk.Mod.refl (fun k=>k=P) w0))
 have HW0:=Lh hw0
 have HF:=Lh hF
 have HC:=Lh (hF n bad hmu w0 (h.below hb0))
 have HMU:=Lh hmu
 clear h hb0 hbx hw0 hRB hs0 hPR hF hmu
 go_enter Tryz.func76,Tryz.ntmps76
 go_wp2_with fail
 rw [<- HW0.out,<- HRB.out]
 refine (HC.out).mono ?_
 rintro e w1 ⟨f0,x0,n1,b1,rfl,hx,ho,hr,hm⟩
 have R0:=Lh ho
 have XX:=Lh (hx.toX (A:=RB+1) (B:=0) (by have:=G0.out.2.size;have:=HS0.out;omega) (by have:=G0.out.2.size;have:=HS0.out;omega))
 clear ho hx HC
 have G1:=Lh (aI hr (G0.out.2.trans hm (fun _ _ h=>h)))
 clear hr hm
 have Xf0:=XX
 clear XX
 have hmu1:=R0.out.mu (fun l a r e=>Nat.le_of_lt (parAnd_eat e).len)
 have HM1:Hid (Chalk.mu L n1 b1<=m):=Lh (Nat.le_trans hmu1 HMU.out)
 clear hmu1
 obtain ⟨B1,hB1⟩:∃ B1,B1=w1.heap.size:=⟨_,rfl⟩
 have Xg:=Lh (show FrmIn w1 (Fx (RB+1) B1 w1) f0 x0 from Xf0.out.mono (fun k hk=>⟨hk.1,by have:=hk.2.2;omega,hk.2.2⟩))
 clear Xf0
 obtain ⟨w2,hw2⟩:∃ w2,w2=w1.alloc (.cells #[.int .i64 f0.kind,.string ⟨f0.name.toArray⟩,.int .i64 f0.n,.slice x0.t.a f0.terms.length x0.t.cap,.slice x0.b.a f0.binds.length x0.b.cap,.slice x0.l.a f0.l.length x0.l.cap] 28):=⟨_,rfl⟩
 have hb:Below w1.heap.size w1 w2:=by rw [hw2];exact below_new _ _
 have hx:w2.heap[B1]?=some (.cells #[.int .i64 f0.kind,.string ⟨f0.name.toArray⟩,.int .i64 f0.n,.slice x0.t.a f0.terms.length x0.t.cap,.slice x0.b.a f0.binds.length x0.b.cap,.slice x0.l.a f0.l.length x0.l.cap] 28 (0,0)):=by rw [hw2,hB1];exact heap_alloc_new _ _
 have HKB1:Hid (RB<B1):=Lh (by have:=G1.out.2.size;have:=HS0.out;omega)
 have hm:Chalk.Mod (fun k=>k=P) w1 w2:=Chalk.Mod.of_below hb
 have Xg:=Lh (Xg.out.keep hm (fun k hk=>by have:=HPR.out;omega))
 have G2:=Lh (aI (G1.out.1.below hb) (G1.out.2.trans hm (fun _ _ h=>h)))
 clear hm
 have KB1:=Lh hx
 have HW2:=Lh hw2
 have HQB1:=Lh hB1
 clear hb hx hw2 hB1
 go_wp2_with fail
 rw [<- HW2.out,<- HQB1.out]
 go_loopw [] (fun wr=>∃ (f:Frm) (x:FrmA) (nj:Nat) (bj:Bool),Hid (wr.heap[B1]?=some (.cells #[.int .i64 f.kind,.string ⟨f.name.toArray⟩,.int .i64 f.n,.slice x.t.a f.terms.length x.t.cap,.slice x.b.a f.binds.length x.b.cap,.slice x.l.a f.l.length x.l.cap] 28 (0,0)))/\Hid (FrmIn wr (Fx (RB+1) B1 wr) f x)/\Hid (RdAt wr P L nj bj/\Chalk.Mod (fun k=>k=P) w0 wr)/\Hid (LCont L parOr parOrs n bad f nj bj)/\Hid (Chalk.mu L nj bj<=m)) (fun wr=>rdMu wr P)
 case atStart=>exact ⟨f0,x0,n1,b1,KB1,Xg,G2,Lh (fun x n' b' hx=>(R0.out.bind (q:=parOrs) hx).congr (fun _=>by rw [parOr_eq])),HM1⟩
 case round =>
  obtain ⟨f,x,nj,bj,KF,XF,GG,HCT,HMJ⟩:=hrel
  have HTKK:=Lh (rtook_any P L nj bj [124] wr GG.out.1)
  go_wp2_with fail
  refine HTKK.out.mono ?_
  rintro e w11 ⟨c,n2,rfl,ht,hr,hm⟩
  have RT:=Lh ht
  have KF1:=Lh (heap_kept KF.out hm (by have:=HPR.out;have:=HKB1.out;omega))
  have XF1:=Lh (XF.out.keep hm (fun k hk=>by have:=HPR.out;omega))
  have G11:=Lh (aI hr (GG.out.2.trans hm (fun _ _ h=>h)))
  clear ht hr hm HTKK
  cases c
  ·have y0:w11.cell? ⟨B1,0,none⟩=some (.int .i64 f.kind):=cH KF1.out rfl
   have y1:w11.cell? ⟨B1,1,none⟩=some (.string ⟨f.name.toArray⟩):=cH KF1.out rfl
   have y2:w11.cell? ⟨B1,2,none⟩=some (.int .i64 f.n):=cH KF1.out rfl
   have y3:w11.cell? ⟨B1,3,none⟩=some (.slice x.t.a f.terms.length x.t.cap):=cH KF1.out rfl
   have y4:w11.cell? ⟨B1,4,none⟩=some (.slice x.b.a f.binds.length x.b.cap):=cH KF1.out rfl
   have y5:w11.cell? ⟨B1,5,none⟩=some (.slice x.l.a f.l.length x.l.cap):=cH KF1.out rfl
   obtain ⟨x0,x1,x2,x3,x4,x5,fz0,fz1,fz2,fz3,fz4,fz5,hrl⟩:=HE.out w11 G11.out.2
   go_wp2_with fail
   refine bodyPost_ret (v:=.agg #[.int .i64 f.kind,.string ⟨f.name.toArray⟩,.int .i64 f.n,.slice x.t.a f.terms.length x.t.cap,.slice x.b.a f.binds.length x.b.cap,.slice x.l.a f.l.length x.l.cap]) (by simp [results,Tryz.results76,go_sem, *]) rfl ?_
   exact RFrmP.last HRB.out HPR.out HM0.out G11.out (Nat.lt_succ_self _) XF1.out (HCT.out f _ _ (by have h:=RT.out;obtain ⟨h1,rfl⟩:=h.no;exact rd_left0 (fun f l=>parOrs_eq f l) h))
  ·have HKKF1:=HKB1
   have hy:=RT.out.yes
   have hbj:=hy.1
   have hn2:=hy.2.2
   subst hbj
   subst hn2
   have hmu2:Chalk.mu L (nj+1) false<=m:=by have h1:=HMJ.out;have h2:=GG.out.1.place;show L.length - (nj+1)<=m;have h3:L.length - nj<=m:=h1;omega
   have HLT:Hid (Chalk.mu L (nj+1) false<Chalk.mu L nj false):=Lh (by have h2:=GG.out.1.place;show L.length - (nj+1)<L.length - nj;omega)
   have HC2:=Lh (HF.out (nj+1) false hmu2 w11 G11.out.1)
   clear hy hmu2
   go_wp2_with fail
   refine HC2.out.mono ?_
   rintro e w12 ⟨g,y,n3,b3,rfl,hx,ho,hr,hm⟩
   have R2:=Lh ho
   have XX:=Lh (hx.toX (A:=RB+1) (B:=B1) (by have:=G11.out.2.size;have:=HS0.out;omega) (gS KF1.out).1)
   clear ho hx HC2
   have KF1:=Lh (heap_kept KF1.out hm (by have:=HPR.out;have:=HKKF1.out;omega))
   have XF1:=Lh (XF1.out.keep hm (fun k hk=>by have:=HPR.out;omega))
   have G12:=Lh (aI hr (G11.out.2.trans hm (fun _ _ h=>h)))
   clear hr hm
   have XG:=XX
   clear XX
   have y0:w12.cell? ⟨B1,0,none⟩=some (.int .i64 f.kind):=cH KF1.out rfl
   have y1:w12.cell? ⟨B1,1,none⟩=some (.string ⟨f.name.toArray⟩):=cH KF1.out rfl
   have y2:w12.cell? ⟨B1,2,none⟩=some (.int .i64 f.n):=cH KF1.out rfl
   have y3:w12.cell? ⟨B1,3,none⟩=some (.slice x.t.a f.terms.length x.t.cap):=cH KF1.out rfl
   have y4:w12.cell? ⟨B1,4,none⟩=some (.slice x.b.a f.binds.length x.b.cap):=cH KF1.out rfl
   have y5:w12.cell? ⟨B1,5,none⟩=some (.slice x.l.a f.l.length x.l.cap):=cH KF1.out rfl
   have hB1l:B1<w12.heap.size:=(gS KF1.out).1
   obtain ⟨B4,hB4⟩:∃ B4,B4=w12.heap.size:=⟨_,rfl⟩
   obtain ⟨w13,hw13⟩:∃ w13,w13=w12.alloc (.cells #[.int .i64 g.kind,.string ⟨g.name.toArray⟩,.int .i64 g.n,.slice y.t.a g.terms.length y.t.cap,.slice y.b.a g.binds.length y.b.cap,.slice y.l.a g.l.length y.l.cap] 28):=⟨_,rfl⟩
   have hb:Below w12.heap.size w12 w13:=by rw [hw13];exact below_new _ _
   have hx:w13.heap[B4]?=some (.cells #[.int .i64 g.kind,.string ⟨g.name.toArray⟩,.int .i64 g.n,.slice y.t.a g.terms.length y.t.cap,.slice y.b.a g.binds.length y.b.cap,.slice y.l.a g.l.length y.l.cap] 28 (0,0)):=by rw [hw13,hB4];exact heap_alloc_new _ _
   have HKB4:Hid (RB<B4):=Lh (by have:=G12.out.2.size;have:=HS0.out;omega)
   have hm:Chalk.Mod (fun k=>k=P) w12 w13:=Chalk.Mod.of_below hb
   have KF1:=Lh (heap_kept KF1.out hm (by have:=HPR.out;have:=HKKF1.out;omega))
   have XF1:=Lh (XF1.out.keep hm (fun k hk=>by have:=HPR.out;omega))
   have XG:=Lh (XG.out.keep hm (fun k hk=>by have:=HPR.out;omega))
   have G13:=Lh (aI (G12.out.1.below hb) (G12.out.2.trans hm (fun _ _ h=>h)))
   clear hm
   have KB4:=Lh hx
   have HW13:=Lh hw13
   have HQB4:=Lh hB4
   clear hb hx hw13 hB4
   clear KB4
   go_wp2_with (with_reducible refine wpList_row ?_)
   rw [<- HW13.out,<- HQB4.out]
   unfold Hold
   refine wpList_step fun K hK=>?_
   rw [if_pos (by kernel_rfl)]
   go_simp
   refine hK _ _ ?_
   clear hK K
   try simp only [Act.put,ub1,ub2,ub3]
   have hb:Below w13.heap.size w13 (w13.alloc (.cells #[.int .i64 f.kind,.string ⟨f.name.toArray⟩,.int .i64 f.n,.slice x.t.a f.terms.length x.t.cap,.slice x.b.a f.binds.length x.b.cap,.slice x.l.a f.l.length x.l.cap,.int .i64 g.kind,.string ⟨g.name.toArray⟩,.int .i64 g.n,.slice y.t.a g.terms.length y.t.cap,.slice y.b.a g.binds.length y.b.cap,.slice y.l.a g.l.length y.l.cap] 28)):=below_new _ _
   have hx:(w13.alloc (.cells #[.int .i64 f.kind,.string ⟨f.name.toArray⟩,.int .i64 f.n,.slice x.t.a f.terms.length x.t.cap,.slice x.b.a f.binds.length x.b.cap,.slice x.l.a f.l.length x.l.cap,.int .i64 g.kind,.string ⟨g.name.toArray⟩,.int .i64 g.n,.slice y.t.a g.terms.length y.t.cap,.slice y.b.a g.binds.length y.b.cap,.slice y.l.a g.l.length y.l.cap] 28)).heap[w13.heap.size]?=some (.cells #[.int .i64 f.kind,.string ⟨f.name.toArray⟩,.int .i64 f.n,.slice x.t.a f.terms.length x.t.cap,.slice x.b.a f.binds.length x.b.cap,.slice x.l.a f.l.length x.l.cap,.int .i64 g.kind,.string ⟨g.name.toArray⟩,.int .i64 g.n,.slice y.t.a g.terms.length y.t.cap,.slice y.b.a g.binds.length y.b.cap,.slice y.l.a g.l.length y.l.cap] 28 (0,0)):=heap_alloc_new _ _
   obtain ⟨BR,hBR⟩:∃ BR,BR=w13.heap.size:=⟨_,rfl⟩
   have HKBR:Hid (RB<BR/\B1<BR):=Lh ⟨by have:=G13.out.2.size;have:=HS0.out;omega,by rw [hBR];exact (gS KF1.out).1⟩
   rw [<- hBR] at hx ⊢
   generalize w13.alloc (.cells #[.int .i64 f.kind,.string ⟨f.name.toArray⟩,.int .i64 f.n,.slice x.t.a f.terms.length x.t.cap,.slice x.b.a f.binds.length x.b.cap,.slice x.l.a f.l.length x.l.cap,.int .i64 g.kind,.string ⟨g.name.toArray⟩,.int .i64 g.n,.slice y.t.a g.terms.length y.t.cap,.slice y.b.a g.binds.length y.b.cap,.slice y.l.a g.l.length y.l.cap] 28)=w14 at hb hx ⊢
   clear y0 y1 y2 y3 y4 y5 hB1l
   have hm:Chalk.Mod (fun k=>k=P) w13 w14:=Chalk.Mod.of_below hb
   have KF1:=Lh (heap_kept KF1.out hm (by have:=HPR.out;have:=HKKF1.out;omega))
   have XF1:=Lh (XF1.out.keep hm (fun k hk=>by have:=HPR.out;omega))
   have XG:=Lh (XG.out.keep hm (fun k hk=>by have:=HPR.out;omega))
   have G14:=Lh (aI (G13.out.1.below hb) (G13.out.2.trans hm (fun _ _ h=>h)))
   clear hm
   have KBR:=Lh hx
   clear hb hx hBR
   have q0:w14.frozen? ⟨B1,0,none⟩=false:=fH KF1.out
   have q1:w14.frozen? ⟨B1,1,none⟩=false:=fH KF1.out
   have q2:w14.frozen? ⟨B1,2,none⟩=false:=fH KF1.out
   have q3:w14.frozen? ⟨B1,3,none⟩=false:=fH KF1.out
   have q4:w14.frozen? ⟨B1,4,none⟩=false:=fH KF1.out
   have q5:w14.frozen? ⟨B1,5,none⟩=false:=fH KF1.out
   have y0:w14.cell? ⟨B1,0,none⟩=some (.int .i64 f.kind):=cH KF1.out rfl
   have y1:w14.cell? ⟨B1,1,none⟩=some (.string ⟨f.name.toArray⟩):=cH KF1.out rfl
   have y2:w14.cell? ⟨B1,2,none⟩=some (.int .i64 f.n):=cH KF1.out rfl
   have y3:w14.cell? ⟨B1,3,none⟩=some (.slice x.t.a f.terms.length x.t.cap):=cH KF1.out rfl
   have y4:w14.cell? ⟨B1,4,none⟩=some (.slice x.b.a f.binds.length x.b.cap):=cH KF1.out rfl
   have y5:w14.cell? ⟨B1,5,none⟩=some (.slice x.l.a f.l.length x.l.cap):=cH KF1.out rfl
   have hB1l:B1<w14.heap.size:=(gS KF1.out).1
   have hst:=st6_mod w14 B1 (.int .i64 12) (.string ⟨#[]⟩) (.int .i64 0) (.slice none 0 0) (.slice none 0 0) (.slice (some ⟨BR,0,none⟩) 2 2)
   have KN:=Lh (st6_heap (c0:=.int .i64 12) (c1:=.string ⟨#[]⟩) (c2:=.int .i64 0) (c3:=.slice none 0 0) (c4:=.slice none 0 0) (c5:=.slice (some ⟨BR,0,none⟩) 2 2) KF1.out)
   have XN:=Lh ((node_two (k:=12) (G:=Fx (RB+1) B1 w14) KBR.out ⟨HKBR.out.1,by have:=HKBR.out.2;omega,(gS KBR.out).1⟩ XF1.out XG.out (by decide)).keep hst (fun k hk=>.inr hk))
   have GN:=Lh (aI (RdAt.far G14.out.1 hst (fun k hk=>by have:=HPR.out;have:=HKB1.out;omega)) (mod_one G14.out.2 hst (by have:=HKB1.out;have:=HS0.out;omega)))
   have HMN:Hid (rdMu (st6 w14 B1 (.int .i64 12) (.string ⟨#[]⟩) (.int .i64 0) (.slice none 0 0) (.slice none 0 0) (.slice (some ⟨BR,0,none⟩) 2 2)) P<Chalk.mu L nj false):=Lh (by rw [GN.out.1.mu];have h1:=R2.out.mu (fun l a r e=>Nat.le_of_lt (parAnd_eat e).len);have h2:=HLT.out;omega)
   have HMN2:Hid (Chalk.mu L n3 b3<=m):=Lh (by have h1:=R2.out.mu (fun l a r e=>Nat.le_of_lt (parAnd_eat e).len);have h2:=HLT.out;have h3:=HMJ.out;omega)
   have HMW:Hid (rdMu wr P=Chalk.mu L nj false):=Lh GG.out.1.mu
   clear hst
   unfold st6 at KN XN GN HMN
   go_wp2_with fail
   exact ⟨⟨node2 12 f g,⟨noS,noS,⟨some ⟨BR,0,none⟩,BR,0,2⟩⟩,n3,b3,KN,XN,GN,Lh (fun x n' b' hx=>HCT.out x n' b' (rd_left1 (fun f l=>parOrs_eq f l) RT.out R2.out hx)),HMN2⟩,by rw [HMW.out];exact HMN.out⟩
theorem rand_any7 (P:Nat) (L:List Tok) (m:Nat) (hF:∀ n' b',Chalk.mu L n' b'<=m->ROk P L 165 parUn n' b') (n:Nat) (bad:Bool) (hmu:Chalk.mu L n bad<=m):ROk P L 138 parAnd n bad:=by
 intro w h
 obtain ⟨RB,hRB⟩:∃ RB,RB=w.heap.size:=⟨_,rfl⟩
 obtain ⟨w0,hw0⟩:∃ w0,w0=w.alloc (.cells #[.int .i64 0,.string ⟨#[]⟩,.int .i64 0,.slice none 0 0,.slice none 0 0,.slice none 0 0] 28):=⟨_,rfl⟩
 have hb0:Below w.heap.size w w0:=by rw [hw0];exact below_new _ _
 have hbx:w0.heap[RB]?=some (.cells #[.int .i64 0,.string ⟨#[]⟩,.int .i64 0,.slice none 0 0,.slice none 0 0,.slice none 0 0] 28 (0,0)):=by rw [hw0,hRB];exact heap_alloc_new _ _
 have hPR:P<RB:=by rw [hRB];exact h.lt
 have hs0:w0.heap.size=RB+1:=by rw [hw0,hRB];simp
 have HE:=Lh (fun (W':World) (hW:Chalk.Mod (fun k=>k=P) w0 W')=>rdres6 hbx hPR W' hW)
 have HM0:Hid (Chalk.Mod (fun k=>k=P) w w0):=Lh (Chalk.Mod.of_below hb0)
 have HS0:=Lh hs0
 have HRB:=Lh hRB
 have HPR:=Lh hPR
 have HNL:=Lh h.place
 have HTK:=Lh h.toks
 have G0:=Lh (aI (h.below hb0) (Chalk.Mod.refl (fun k=>k=P) w0))
 have HW0:=Lh hw0
 have HF:=Lh hF
 have HC:=Lh (hF n bad hmu w0 (h.below hb0))
 have HMU:=Lh hmu
 clear h hb0 hbx hw0 hRB hs0 hPR hF hmu
 go_enter Tryz.func138,Tryz.ntmps138
 go_wp2_with fail
 rw [<- HW0.out,<- HRB.out]
 refine (HC.out).mono ?_
 rintro e w1 ⟨f0,x0,n1,b1,rfl,hx,ho,hr,hm⟩
 have R0:=Lh ho
 have XX:=Lh (hx.toX (A:=RB+1) (B:=0) (by have:=G0.out.2.size;have:=HS0.out;omega) (by have:=G0.out.2.size;have:=HS0.out;omega))
 clear ho hx HC
 have G1:=Lh (aI hr (G0.out.2.trans hm (fun _ _ h=>h)))
 clear hr hm
 have Xf0:=XX
 clear XX
 have hmu1:=R0.out.mu (fun l a r e=>Nat.le_of_lt (parUn_eat e).len)
 have HM1:Hid (Chalk.mu L n1 b1<=m):=Lh (Nat.le_trans hmu1 HMU.out)
 clear hmu1
 obtain ⟨B1,hB1⟩:∃ B1,B1=w1.heap.size:=⟨_,rfl⟩
 have Xg:=Lh (show FrmIn w1 (Fx (RB+1) B1 w1) f0 x0 from Xf0.out.mono (fun k hk=>⟨hk.1,by have:=hk.2.2;omega,hk.2.2⟩))
 clear Xf0
 obtain ⟨w2,hw2⟩:∃ w2,w2=w1.alloc (.cells #[.int .i64 f0.kind,.string ⟨f0.name.toArray⟩,.int .i64 f0.n,.slice x0.t.a f0.terms.length x0.t.cap,.slice x0.b.a f0.binds.length x0.b.cap,.slice x0.l.a f0.l.length x0.l.cap] 28):=⟨_,rfl⟩
 have hb:Below w1.heap.size w1 w2:=by rw [hw2];exact below_new _ _
 have hx:w2.heap[B1]?=some (.cells #[.int .i64 f0.kind,.string ⟨f0.name.toArray⟩,.int .i64 f0.n,.slice x0.t.a f0.terms.length x0.t.cap,.slice x0.b.a f0.binds.length x0.b.cap,.slice x0.l.a f0.l.length x0.l.cap] 28 (0,0)):=by rw [hw2,hB1];exact heap_alloc_new _ _
 have HKB1:Hid (RB<B1):=Lh (by have:=G1.out.2.size;have:=HS0.out;omega)
 have hm:Chalk.Mod (fun k=>k=P) w1 w2:=Chalk.Mod.of_below hb
 have Xg:=Lh (Xg.out.keep hm (fun k hk=>by have:=HPR.out;omega))
 have G2:=Lh (aI (G1.out.1.below hb) (G1.out.2.trans hm (fun _ _ h=>h)))
 clear hm
 have KB1:=Lh hx
 have HW2:=Lh hw2
 have HQB1:=Lh hB1
 clear hb hx hw2 hB1
 go_wp2_with fail
 rw [<- HW2.out,<- HQB1.out]
 go_loopw [] (fun wr=>∃ (f:Frm) (x:FrmA) (nj:Nat) (bj:Bool),Hid (wr.heap[B1]?=some (.cells #[.int .i64 f.kind,.string ⟨f.name.toArray⟩,.int .i64 f.n,.slice x.t.a f.terms.length x.t.cap,.slice x.b.a f.binds.length x.b.cap,.slice x.l.a f.l.length x.l.cap] 28 (0,0)))/\Hid (FrmIn wr (Fx (RB+1) B1 wr) f x)/\Hid (RdAt wr P L nj bj/\Chalk.Mod (fun k=>k=P) w0 wr)/\Hid (LCont L parAnd parAnds n bad f nj bj)/\Hid (Chalk.mu L nj bj<=m)) (fun wr=>rdMu wr P)
 case atStart=>exact ⟨f0,x0,n1,b1,KB1,Xg,G2,Lh (fun x n' b' hx=>(R0.out.bind (q:=parAnds) hx).congr (fun _=>by rw [parAnd_eq])),HM1⟩
 case round =>
  obtain ⟨f,x,nj,bj,KF,XF,GG,HCT,HMJ⟩:=hrel
  have HTKK:=Lh (rtook_any P L nj bj [38] wr GG.out.1)
  go_wp2_with fail
  refine HTKK.out.mono ?_
  rintro e w11 ⟨c,n2,rfl,ht,hr,hm⟩
  have RT:=Lh ht
  have KF1:=Lh (heap_kept KF.out hm (by have:=HPR.out;have:=HKB1.out;omega))
  have XF1:=Lh (XF.out.keep hm (fun k hk=>by have:=HPR.out;omega))
  have G11:=Lh (aI hr (GG.out.2.trans hm (fun _ _ h=>h)))
  clear ht hr hm HTKK
  cases c
  ·have y0:w11.cell? ⟨B1,0,none⟩=some (.int .i64 f.kind):=cH KF1.out rfl
   have y1:w11.cell? ⟨B1,1,none⟩=some (.string ⟨f.name.toArray⟩):=cH KF1.out rfl
   have y2:w11.cell? ⟨B1,2,none⟩=some (.int .i64 f.n):=cH KF1.out rfl
   have y3:w11.cell? ⟨B1,3,none⟩=some (.slice x.t.a f.terms.length x.t.cap):=cH KF1.out rfl
   have y4:w11.cell? ⟨B1,4,none⟩=some (.slice x.b.a f.binds.length x.b.cap):=cH KF1.out rfl
   have y5:w11.cell? ⟨B1,5,none⟩=some (.slice x.l.a f.l.length x.l.cap):=cH KF1.out rfl
   obtain ⟨x0,x1,x2,x3,x4,x5,fz0,fz1,fz2,fz3,fz4,fz5,hrl⟩:=HE.out w11 G11.out.2
   go_wp2_with fail
   refine bodyPost_ret (v:=.agg #[.int .i64 f.kind,.string ⟨f.name.toArray⟩,.int .i64 f.n,.slice x.t.a f.terms.length x.t.cap,.slice x.b.a f.binds.length x.b.cap,.slice x.l.a f.l.length x.l.cap]) (by simp [results,Tryz.results138,go_sem, *]) rfl ?_
   exact RFrmP.last HRB.out HPR.out HM0.out G11.out (Nat.lt_succ_self _) XF1.out (HCT.out f _ _ (by have h:=RT.out;obtain ⟨h1,rfl⟩:=h.no;exact rd_left0 (fun f l=>parAnds_eq f l) h))
  ·have HKKF1:=HKB1
   have hy:=RT.out.yes
   have hbj:=hy.1
   have hn2:=hy.2.2
   subst hbj
   subst hn2
   have hmu2:Chalk.mu L (nj+1) false<=m:=by have h1:=HMJ.out;have h2:=GG.out.1.place;show L.length - (nj+1)<=m;have h3:L.length - nj<=m:=h1;omega
   have HLT:Hid (Chalk.mu L (nj+1) false<Chalk.mu L nj false):=Lh (by have h2:=GG.out.1.place;show L.length - (nj+1)<L.length - nj;omega)
   have HC2:=Lh (HF.out (nj+1) false hmu2 w11 G11.out.1)
   clear hy hmu2
   go_wp2_with fail
   refine HC2.out.mono ?_
   rintro e w12 ⟨g,y,n3,b3,rfl,hx,ho,hr,hm⟩
   have R2:=Lh ho
   have XX:=Lh (hx.toX (A:=RB+1) (B:=B1) (by have:=G11.out.2.size;have:=HS0.out;omega) (gS KF1.out).1)
   clear ho hx HC2
   have KF1:=Lh (heap_kept KF1.out hm (by have:=HPR.out;have:=HKKF1.out;omega))
   have XF1:=Lh (XF1.out.keep hm (fun k hk=>by have:=HPR.out;omega))
   have G12:=Lh (aI hr (G11.out.2.trans hm (fun _ _ h=>h)))
   clear hr hm
   have XG:=XX
   clear XX
   have y0:w12.cell? ⟨B1,0,none⟩=some (.int .i64 f.kind):=cH KF1.out rfl
   have y1:w12.cell? ⟨B1,1,none⟩=some (.string ⟨f.name.toArray⟩):=cH KF1.out rfl
   have y2:w12.cell? ⟨B1,2,none⟩=some (.int .i64 f.n):=cH KF1.out rfl
   have y3:w12.cell? ⟨B1,3,none⟩=some (.slice x.t.a f.terms.length x.t.cap):=cH KF1.out rfl
   have y4:w12.cell? ⟨B1,4,none⟩=some (.slice x.b.a f.binds.length x.b.cap):=cH KF1.out rfl
   have y5:w12.cell? ⟨B1,5,none⟩=some (.slice x.l.a f.l.length x.l.cap):=cH KF1.out rfl
   have hB1l:B1<w12.heap.size:=(gS KF1.out).1
   obtain ⟨B4,hB4⟩:∃ B4,B4=w12.heap.size:=⟨_,rfl⟩
   obtain ⟨w13,hw13⟩:∃ w13,w13=w12.alloc (.cells #[.int .i64 g.kind,.string ⟨g.name.toArray⟩,.int .i64 g.n,.slice y.t.a g.terms.length y.t.cap,.slice y.b.a g.binds.length y.b.cap,.slice y.l.a g.l.length y.l.cap] 28):=⟨_,rfl⟩
   have hb:Below w12.heap.size w12 w13:=by rw [hw13];exact below_new _ _
   have hx:w13.heap[B4]?=some (.cells #[.int .i64 g.kind,.string ⟨g.name.toArray⟩,.int .i64 g.n,.slice y.t.a g.terms.length y.t.cap,.slice y.b.a g.binds.length y.b.cap,.slice y.l.a g.l.length y.l.cap] 28 (0,0)):=by rw [hw13,hB4];exact heap_alloc_new _ _
   have HKB4:Hid (RB<B4):=Lh (by have:=G12.out.2.size;have:=HS0.out;omega)
   have hm:Chalk.Mod (fun k=>k=P) w12 w13:=Chalk.Mod.of_below hb
   have KF1:=Lh (heap_kept KF1.out hm (by have:=HPR.out;have:=HKKF1.out;omega))
   have XF1:=Lh (XF1.out.keep hm (fun k hk=>by have:=HPR.out;omega))
   have XG:=Lh (XG.out.keep hm (fun k hk=>by have:=HPR.out;omega))
   have G13:=Lh (aI (G12.out.1.below hb) (G12.out.2.trans hm (fun _ _ h=>h)))
   clear hm
   have KB4:=Lh hx
   have HW13:=Lh hw13
   have HQB4:=Lh hB4
   clear hb hx hw13 hB4
   clear KB4
   go_wp2_with (with_reducible refine wpList_row ?_)
   rw [<- HW13.out,<- HQB4.out]
   unfold Hold
   refine wpList_step fun K hK=>?_
   rw [if_pos (by kernel_rfl)]
   go_simp
   refine hK _ _ ?_
   clear hK K
   try simp only [Act.put,ub1,ub2,ub3]
   have hb:Below w13.heap.size w13 (w13.alloc (.cells #[.int .i64 f.kind,.string ⟨f.name.toArray⟩,.int .i64 f.n,.slice x.t.a f.terms.length x.t.cap,.slice x.b.a f.binds.length x.b.cap,.slice x.l.a f.l.length x.l.cap,.int .i64 g.kind,.string ⟨g.name.toArray⟩,.int .i64 g.n,.slice y.t.a g.terms.length y.t.cap,.slice y.b.a g.binds.length y.b.cap,.slice y.l.a g.l.length y.l.cap] 28)):=below_new _ _
   have hx:(w13.alloc (.cells #[.int .i64 f.kind,.string ⟨f.name.toArray⟩,.int .i64 f.n,.slice x.t.a f.terms.length x.t.cap,.slice x.b.a f.binds.length x.b.cap,.slice x.l.a f.l.length x.l.cap,.int .i64 g.kind,.string ⟨g.name.toArray⟩,.int .i64 g.n,.slice y.t.a g.terms.length y.t.cap,.slice y.b.a g.binds.length y.b.cap,.slice y.l.a g.l.length y.l.cap] 28)).heap[w13.heap.size]?=some (.cells #[.int .i64 f.kind,.string ⟨f.name.toArray⟩,.int .i64 f.n,.slice x.t.a f.terms.length x.t.cap,.slice x.b.a f.binds.length x.b.cap,.slice x.l.a f.l.length x.l.cap,.int .i64 g.kind,.string ⟨g.name.toArray⟩,.int .i64 g.n,.slice y.t.a g.terms.length y.t.cap,.slice y.b.a g.binds.length y.b.cap,.slice y.l.a g.l.length y.l.cap] 28 (0,0)):=heap_alloc_new _ _
   obtain ⟨BR,hBR⟩:∃ BR,BR=w13.heap.size:=⟨_,rfl⟩
   have HKBR:Hid (RB<BR/\B1<BR):=Lh ⟨by have:=G13.out.2.size;have:=HS0.out;omega,by rw [hBR];exact (gS KF1.out).1⟩
   rw [<- hBR] at hx ⊢
   generalize w13.alloc (.cells #[.int .i64 f.kind,.string ⟨f.name.toArray⟩,.int .i64 f.n,.slice x.t.a f.terms.length x.t.cap,.slice x.b.a f.binds.length x.b.cap,.slice x.l.a f.l.length x.l.cap,.int .i64 g.kind,.string ⟨g.name.toArray⟩,.int .i64 g.n,.slice y.t.a g.terms.length y.t.cap,.slice y.b.a g.binds.length y.b.cap,.slice y.l.a g.l.length y.l.cap] 28)=w14 at hb hx ⊢
   clear y0 y1 y2 y3 y4 y5 hB1l
   have hm:Chalk.Mod (fun k=>k=P) w13 w14:=Chalk.Mod.of_below hb
   have KF1:=Lh (heap_kept KF1.out hm (by have:=HPR.out;have:=HKKF1.out;omega))
   have XF1:=Lh (XF1.out.keep hm (fun k hk=>by have:=HPR.out;omega))
   have XG:=Lh (XG.out.keep hm (fun k hk=>by have:=HPR.out;omega))
   have G14:=Lh (aI (G13.out.1.below hb) (G13.out.2.trans hm (fun _ _ h=>h)))
   clear hm
   have KBR:=Lh hx
   clear hb hx hBR
   have q0:w14.frozen? ⟨B1,0,none⟩=false:=fH KF1.out
   have q1:w14.frozen? ⟨B1,1,none⟩=false:=fH KF1.out
   have q2:w14.frozen? ⟨B1,2,none⟩=false:=fH KF1.out
   have q3:w14.frozen? ⟨B1,3,none⟩=false:=fH KF1.out
   have q4:w14.frozen? ⟨B1,4,none⟩=false:=fH KF1.out
   have q5:w14.frozen? ⟨B1,5,none⟩=false:=fH KF1.out
   have y0:w14.cell? ⟨B1,0,none⟩=some (.int .i64 f.kind):=cH KF1.out rfl
   have y1:w14.cell? ⟨B1,1,none⟩=some (.string ⟨f.name.toArray⟩):=cH KF1.out rfl
   have y2:w14.cell? ⟨B1,2,none⟩=some (.int .i64 f.n):=cH KF1.out rfl
   have y3:w14.cell? ⟨B1,3,none⟩=some (.slice x.t.a f.terms.length x.t.cap):=cH KF1.out rfl
   have y4:w14.cell? ⟨B1,4,none⟩=some (.slice x.b.a f.binds.length x.b.cap):=cH KF1.out rfl
   have y5:w14.cell? ⟨B1,5,none⟩=some (.slice x.l.a f.l.length x.l.cap):=cH KF1.out rfl
   have hB1l:B1<w14.heap.size:=(gS KF1.out).1
   have hst:=st6_mod w14 B1 (.int .i64 11) (.string ⟨#[]⟩) (.int .i64 0) (.slice none 0 0) (.slice none 0 0) (.slice (some ⟨BR,0,none⟩) 2 2)
   have KN:=Lh (st6_heap (c0:=.int .i64 11) (c1:=.string ⟨#[]⟩) (c2:=.int .i64 0) (c3:=.slice none 0 0) (c4:=.slice none 0 0) (c5:=.slice (some ⟨BR,0,none⟩) 2 2) KF1.out)
   have XN:=Lh ((node_two (k:=11) (G:=Fx (RB+1) B1 w14) KBR.out ⟨HKBR.out.1,by have:=HKBR.out.2;omega,(gS KBR.out).1⟩ XF1.out XG.out (by decide)).keep hst (fun k hk=>.inr hk))
   have GN:=Lh (aI (RdAt.far G14.out.1 hst (fun k hk=>by have:=HPR.out;have:=HKB1.out;omega)) (mod_one G14.out.2 hst (by have:=HKB1.out;have:=HS0.out;omega)))
   have HMN:Hid (rdMu (st6 w14 B1 (.int .i64 11) (.string ⟨#[]⟩) (.int .i64 0) (.slice none 0 0) (.slice none 0 0) (.slice (some ⟨BR,0,none⟩) 2 2)) P<Chalk.mu L nj false):=Lh (by rw [GN.out.1.mu];have h1:=R2.out.mu (fun l a r e=>Nat.le_of_lt (parUn_eat e).len);have h2:=HLT.out;omega)
   have HMN2:Hid (Chalk.mu L n3 b3<=m):=Lh (by have h1:=R2.out.mu (fun l a r e=>Nat.le_of_lt (parUn_eat e).len);have h2:=HLT.out;have h3:=HMJ.out;omega)
   have HMW:Hid (rdMu wr P=Chalk.mu L nj false):=Lh GG.out.1.mu
   clear hst
   unfold st6 at KN XN GN HMN
   go_wp2_with fail
   exact ⟨⟨node2 11 f g,⟨noS,noS,⟨some ⟨BR,0,none⟩,BR,0,2⟩⟩,n3,b3,KN,XN,GN,Lh (fun x n' b' hx=>HCT.out x n' b' (rd_left1 (fun f l=>parAnds_eq f l) RT.out R2.out hx)),HMN2⟩,by rw [HMW.out];exact HMN.out⟩
theorem rformula_any7 (P:Nat) (L:List Tok) (n:Nat) (bad:Bool) (hO:ROk P L 76 parOr n bad) (hF:∀ n' b',b'=false->Chalk.mu L n' b'<Chalk.mu L n bad->ROk P L 42 parF n' b'):ROk P L 42 parF n bad:=by
 intro w h
 obtain ⟨RB,hRB⟩:∃ RB,RB=w.heap.size:=⟨_,rfl⟩
 obtain ⟨w0,hw0⟩:∃ w0,w0=w.alloc (.cells #[.int .i64 0,.string ⟨#[]⟩,.int .i64 0,.slice none 0 0,.slice none 0 0,.slice none 0 0] 28):=⟨_,rfl⟩
 have hb0:Below w.heap.size w w0:=by rw [hw0];exact below_new _ _
 have hbx:w0.heap[RB]?=some (.cells #[.int .i64 0,.string ⟨#[]⟩,.int .i64 0,.slice none 0 0,.slice none 0 0,.slice none 0 0] 28 (0,0)):=by rw [hw0,hRB];exact heap_alloc_new _ _
 have hPR:P<RB:=by rw [hRB];exact h.lt
 have hs0:w0.heap.size=RB+1:=by rw [hw0,hRB];simp
 have HE:=Lh (fun (W':World) (hW:Chalk.Mod (fun k=>k=P) w0 W')=>rdres6 hbx hPR W' hW)
 have HM0:Hid (Chalk.Mod (fun k=>k=P) w w0):=Lh (Chalk.Mod.of_below hb0)
 have HS0:=Lh hs0
 have HRB:=Lh hRB
 have HPR:=Lh hPR
 have HNL:=Lh h.place
 have HTK:=Lh h.toks
 have G0:=Lh (aI (h.below hb0) (Chalk.Mod.refl (fun k=>k=P) w0))
 have HW0:=Lh hw0
 have HF:=Lh hF
 have HC:=Lh (hO w0 (h.below hb0))
 clear h hb0 hbx hw0 hRB hs0 hPR hF hO
 go_enter Tryz.func42,Tryz.ntmps42
 go_wp2_with fail
 rw [<- HW0.out,<- HRB.out]
 refine (HC.out).mono ?_
 rintro e w1 ⟨f,x,n1,b1,rfl,hx,ho,hr,hm⟩
 have R0:=Lh ho
 have XX:=Lh (hx.toX (A:=RB+1) (B:=0) (by have:=G0.out.2.size;have:=HS0.out;omega) (by have:=G0.out.2.size;have:=HS0.out;omega))
 clear ho hx HC
 have G1:=Lh (aI hr (G0.out.2.trans hm (fun _ _ h=>h)))
 clear hr hm
 have Xf:=XX
 clear XX
 obtain ⟨B1,hB1⟩:∃ B1,B1=w1.heap.size:=⟨_,rfl⟩
 obtain ⟨w2,hw2⟩:∃ w2,w2=w1.alloc (.cells #[.int .i64 f.kind,.string ⟨f.name.toArray⟩,.int .i64 f.n,.slice x.t.a f.terms.length x.t.cap,.slice x.b.a f.binds.length x.b.cap,.slice x.l.a f.l.length x.l.cap] 28):=⟨_,rfl⟩
 have hb:Below w1.heap.size w1 w2:=by rw [hw2];exact below_new _ _
 have hx:w2.heap[B1]?=some (.cells #[.int .i64 f.kind,.string ⟨f.name.toArray⟩,.int .i64 f.n,.slice x.t.a f.terms.length x.t.cap,.slice x.b.a f.binds.length x.b.cap,.slice x.l.a f.l.length x.l.cap] 28 (0,0)):=by rw [hw2,hB1];exact heap_alloc_new _ _
 have HKB1:Hid (RB<B1):=Lh (by have:=G1.out.2.size;have:=HS0.out;omega)
 have hm:Chalk.Mod (fun k=>k=P) w1 w2:=Chalk.Mod.of_below hb
 have Xf:=Lh (Xf.out.keep hm (fun k hk=>by have:=HPR.out;omega))
 have G2:=Lh (aI (G1.out.1.below hb) (G1.out.2.trans hm (fun _ _ h=>h)))
 clear hm
 have KB1:=Lh hx
 have HW2:=Lh hw2
 have HQB1:=Lh hB1
 clear hb hx hw2 hB1
 go_wp2_with fail
 rw [<- HW2.out,<- HQB1.out]
 have HKKB1:=HKB1
 have HN1:=Lh G2.out.1.place
 refine (rtook_any P L n1 b1 [45,62] w2 G2.out.1).mono ?_
 rintro e w3 ⟨c,n2,rfl,ht,hr,hm⟩
 have RT:=Lh ht
 clear ht
 have Xf:=Lh (Xf.out.keep hm (fun k hk=>by have:=HPR.out;omega))
 have KB1:=Lh (heap_kept KB1.out hm (by have:=HPR.out;have:=HKKB1.out;omega))
 have G3:=Lh (aI hr (G2.out.2.trans hm (fun _ _ h=>h)))
 clear hr hm
 cases c
 ·have y0:w3.cell? ⟨B1,0,none⟩=some (.int .i64 f.kind):=cH KB1.out rfl
  have y1:w3.cell? ⟨B1,1,none⟩=some (.string ⟨f.name.toArray⟩):=cH KB1.out rfl
  have y2:w3.cell? ⟨B1,2,none⟩=some (.int .i64 f.n):=cH KB1.out rfl
  have y3:w3.cell? ⟨B1,3,none⟩=some (.slice x.t.a f.terms.length x.t.cap):=cH KB1.out rfl
  have y4:w3.cell? ⟨B1,4,none⟩=some (.slice x.b.a f.binds.length x.b.cap):=cH KB1.out rfl
  have y5:w3.cell? ⟨B1,5,none⟩=some (.slice x.l.a f.l.length x.l.cap):=cH KB1.out rfl
  obtain ⟨x0,x1,x2,x3,x4,x5,fz0,fz1,fz2,fz3,fz4,fz5,hrl⟩:=HE.out w3 G3.out.2
  go_wp2_with fail
  refine bodyPost_ret (v:=.agg #[.int .i64 f.kind,.string ⟨f.name.toArray⟩,.int .i64 f.n,.slice x.t.a f.terms.length x.t.cap,.slice x.b.a f.binds.length x.b.cap,.slice x.l.a f.l.length x.l.cap]) (by simp [results,Tryz.results42,go_sem, *]) rfl ?_
  exact RFrmP.last HRB.out HPR.out HM0.out G3.out (Nat.lt_succ_self _) Xf.out (by have h:=RT.out;obtain ⟨h1,rfl⟩:=h.no;exact rd_noimp R0.out h)
 ·have hy:=RT.out.yes
  have hbj:=hy.1
  have hn2:=hy.2.2
  subst hbj
  subst hn2
  have hlt:Chalk.mu L (n1+1) false<Chalk.mu L n bad:=by have h1:=R0.out.mu (fun l a r e=>Nat.le_of_lt (parOr_eat e).len);have h2:=HN1.out;have h3:Chalk.mu L n1 false=L.length - n1:=rfl;have h4:Chalk.mu L (n1+1) false=L.length - (n1+1):=rfl;omega
  have HC2:=Lh (HF.out (n1+1) false rfl hlt w3 G3.out.1)
  clear hy hlt
  go_wp2_with fail
  refine (HC2.out).mono ?_
  rintro e w4 ⟨g,y,n3,b3,rfl,hx,ho,hr,hm⟩
  have R2:=Lh ho
  have XX:=Lh (hx.toX (A:=RB+1) (B:=0) (by have:=G3.out.2.size;have:=HS0.out;omega) (by have:=G3.out.2.size;have:=HS0.out;omega))
  clear ho hx HC2
  have Xf:=Lh (Xf.out.keep hm (fun k hk=>by have:=HPR.out;omega))
  have KB1:=Lh (heap_kept KB1.out hm (by have:=HPR.out;have:=HKKB1.out;omega))
  have G4:=Lh (aI hr (G3.out.2.trans hm (fun _ _ h=>h)))
  clear hr hm
  have Xg:=XX
  clear XX
  have y0:w4.cell? ⟨B1,0,none⟩=some (.int .i64 f.kind):=cH KB1.out rfl
  have y1:w4.cell? ⟨B1,1,none⟩=some (.string ⟨f.name.toArray⟩):=cH KB1.out rfl
  have y2:w4.cell? ⟨B1,2,none⟩=some (.int .i64 f.n):=cH KB1.out rfl
  have y3:w4.cell? ⟨B1,3,none⟩=some (.slice x.t.a f.terms.length x.t.cap):=cH KB1.out rfl
  have y4:w4.cell? ⟨B1,4,none⟩=some (.slice x.b.a f.binds.length x.b.cap):=cH KB1.out rfl
  have y5:w4.cell? ⟨B1,5,none⟩=some (.slice x.l.a f.l.length x.l.cap):=cH KB1.out rfl
  have hB1l:B1<w4.heap.size:=(gS KB1.out).1
  obtain ⟨B4,hB4⟩:∃ B4,B4=w4.heap.size:=⟨_,rfl⟩
  obtain ⟨w5,hw5⟩:∃ w5,w5=w4.alloc (.cells #[.int .i64 g.kind,.string ⟨g.name.toArray⟩,.int .i64 g.n,.slice y.t.a g.terms.length y.t.cap,.slice y.b.a g.binds.length y.b.cap,.slice y.l.a g.l.length y.l.cap] 28):=⟨_,rfl⟩
  have hb:Below w4.heap.size w4 w5:=by rw [hw5];exact below_new _ _
  have hx:w5.heap[B4]?=some (.cells #[.int .i64 g.kind,.string ⟨g.name.toArray⟩,.int .i64 g.n,.slice y.t.a g.terms.length y.t.cap,.slice y.b.a g.binds.length y.b.cap,.slice y.l.a g.l.length y.l.cap] 28 (0,0)):=by rw [hw5,hB4];exact heap_alloc_new _ _
  have hm:Chalk.Mod (fun k=>k=P) w4 w5:=Chalk.Mod.of_below hb
  have Xf:=Lh (Xf.out.keep hm (fun k hk=>by have:=HPR.out;omega))
  have KB1:=Lh (heap_kept KB1.out hm (by have:=HPR.out;have:=HKKB1.out;omega))
  have Xg:=Lh (Xg.out.keep hm (fun k hk=>by have:=HPR.out;omega))
  have G5:=Lh (aI (G4.out.1.below hb) (G4.out.2.trans hm (fun _ _ h=>h)))
  clear hm
  have KB4:=Lh hx
  have HW13:=Lh hw5
  have HQB4:=Lh hB4
  clear hb hx hw5 hB4
  clear KB4
  go_wp2_with (with_reducible refine wpList_row ?_)
  rw [<- HW13.out,<- HQB4.out]
  unfold Hold
  refine wpList_step fun K hK=>?_
  rw [if_pos (by kernel_rfl)]
  go_simp
  refine hK _ _ ?_
  clear hK K
  try simp only [Act.put,ub1,ub2,ub3]
  have hb:Below w5.heap.size w5 (w5.alloc (.cells #[.int .i64 f.kind,.string ⟨f.name.toArray⟩,.int .i64 f.n,.slice x.t.a f.terms.length x.t.cap,.slice x.b.a f.binds.length x.b.cap,.slice x.l.a f.l.length x.l.cap,.int .i64 g.kind,.string ⟨g.name.toArray⟩,.int .i64 g.n,.slice y.t.a g.terms.length y.t.cap,.slice y.b.a g.binds.length y.b.cap,.slice y.l.a g.l.length y.l.cap] 28)):=below_new _ _
  have hx:(w5.alloc (.cells #[.int .i64 f.kind,.string ⟨f.name.toArray⟩,.int .i64 f.n,.slice x.t.a f.terms.length x.t.cap,.slice x.b.a f.binds.length x.b.cap,.slice x.l.a f.l.length x.l.cap,.int .i64 g.kind,.string ⟨g.name.toArray⟩,.int .i64 g.n,.slice y.t.a g.terms.length y.t.cap,.slice y.b.a g.binds.length y.b.cap,.slice y.l.a g.l.length y.l.cap] 28)).heap[w5.heap.size]?=some (.cells #[.int .i64 f.kind,.string ⟨f.name.toArray⟩,.int .i64 f.n,.slice x.t.a f.terms.length x.t.cap,.slice x.b.a f.binds.length x.b.cap,.slice x.l.a f.l.length x.l.cap,.int .i64 g.kind,.string ⟨g.name.toArray⟩,.int .i64 g.n,.slice y.t.a g.terms.length y.t.cap,.slice y.b.a g.binds.length y.b.cap,.slice y.l.a g.l.length y.l.cap] 28 (0,0)):=heap_alloc_new _ _
  obtain ⟨BR,hBR⟩:∃ BR,BR=w5.heap.size:=⟨_,rfl⟩
  have HKBR:Hid (RB<BR):=Lh (by have:=G5.out.2.size;have:=HS0.out;omega)
  rw [<- hBR] at hx ⊢
  generalize w5.alloc (.cells #[.int .i64 f.kind,.string ⟨f.name.toArray⟩,.int .i64 f.n,.slice x.t.a f.terms.length x.t.cap,.slice x.b.a f.binds.length x.b.cap,.slice x.l.a f.l.length x.l.cap,.int .i64 g.kind,.string ⟨g.name.toArray⟩,.int .i64 g.n,.slice y.t.a g.terms.length y.t.cap,.slice y.b.a g.binds.length y.b.cap,.slice y.l.a g.l.length y.l.cap] 28)=w6 at hb hx ⊢
  clear y0 y1 y2 y3 y4 y5 hB1l
  have hm:Chalk.Mod (fun k=>k=P) w5 w6:=Chalk.Mod.of_below hb
  have Xf:=Lh (Xf.out.keep hm (fun k hk=>by have:=HPR.out;omega))
  have KB1:=Lh (heap_kept KB1.out hm (by have:=HPR.out;have:=HKKB1.out;omega))
  have Xg:=Lh (Xg.out.keep hm (fun k hk=>by have:=HPR.out;omega))
  have G6:=Lh (aI (G5.out.1.below hb) (G5.out.2.trans hm (fun _ _ h=>h)))
  clear hm
  have KBR:=Lh hx
  clear hb hx hBR
  obtain ⟨x0,x1,x2,x3,x4,x5,fz0,fz1,fz2,fz3,fz4,fz5,hrl⟩:=HE.out w6 G6.out.2
  go_wp2_with fail
  refine bodyPost_ret (v:=.agg #[.int .i64 13,.string ⟨#[]⟩,.int .i64 0,.slice none 0 0,.slice none 0 0,.slice (some ⟨BR,0,none⟩) 2 2]) (by simp [results,Tryz.results42,go_sem, *]) rfl ?_
  exact RFrmP.last (A:=RB+1) (B:=0) (f:=node2 13 f g) (x:=⟨noS,noS,⟨some ⟨BR,0,none⟩,BR,0,2⟩⟩) HRB.out HPR.out HM0.out G6.out (Nat.lt_succ_self _) (node_two KBR.out ⟨HKBR.out,by have:=HKBR.out;omega,(gS KBR.out).1⟩ Xf.out Xg.out (by decide)) (rd_imp R0.out RT.out R2.out)
theorem rbrack_any7 (P:Nat) (L:List Tok) (n:Nat) (bad:Bool) (hF:∀ n' b',b'=false->Chalk.mu L n' b'<Chalk.mu L n bad->ROk P L 42 parF n' b'):ROk P L 190 parBrk n bad:=by
 intro w h
 obtain ⟨RB,hRB⟩:∃ RB,RB=w.heap.size:=⟨_,rfl⟩
 obtain ⟨w0,hw0⟩:∃ w0,w0=w.alloc (.cells #[.int .i64 0,.string ⟨#[]⟩,.int .i64 0,.slice none 0 0,.slice none 0 0,.slice none 0 0] 28):=⟨_,rfl⟩
 have hb0:Below w.heap.size w w0:=by rw [hw0];exact below_new _ _
 have hbx:w0.heap[RB]?=some (.cells #[.int .i64 0,.string ⟨#[]⟩,.int .i64 0,.slice none 0 0,.slice none 0 0,.slice none 0 0] 28 (0,0)):=by rw [hw0,hRB];exact heap_alloc_new _ _
 have hPR:P<RB:=by rw [hRB];exact h.lt
 have hs0:w0.heap.size=RB+1:=by rw [hw0,hRB];simp
 have HE:=Lh (fun (W':World) (hW:Chalk.Mod (fun k=>k=P) w0 W')=>rdres6 hbx hPR W' hW)
 have HM0:Hid (Chalk.Mod (fun k=>k=P) w w0):=Lh (Chalk.Mod.of_below hb0)
 have HS0:=Lh hs0
 have HRB:=Lh hRB
 have HPR:=Lh hPR
 have HNL:=Lh h.place
 have HTK:=Lh h.toks
 have G0:=Lh (aI (h.below hb0) (Chalk.Mod.refl (fun k=>k=P) w0))
 have HW0:=Lh hw0
 have HF:=Lh hF
 clear h hb0 hbx hw0 hRB hs0 hPR hF
 go_enter Tryz.func190,Tryz.ntmps190
 go_wp2_with fail
 rw [<- HW0.out,<- HRB.out]
 refine (rwant_any P L n bad [40] w0 G0.out.1).mono ?_
 rintro e w1 ⟨n1,b1,rfl,ho,hr,hm⟩
 have R1:=Lh ho
 clear ho
 have G1:=Lh (aI hr (G0.out.2.trans hm (fun _ _ h=>h)))
 clear hr hm
 obtain ⟨cp2,-⟩:=G1.out.1.bad2
 cases b1
 rotate_left
 ·have hdum:True:=trivial
  obtain ⟨x0,x1,x2,x3,x4,x5,fz0,fz1,fz2,fz3,fz4,fz5,hrl⟩:=HE.out w1 G1.out.2
  go_wp2_with fail
  refine bodyPost_ret (v:=.agg #[.int .i64 0,.string ⟨#[]⟩,.int .i64 0,.slice none 0 0,.slice none 0 0,.slice none 0 0]) (by simp [results,Tryz.results190,go_sem, *]) rfl ?_
  exact RFrmP.last (A:=RB+1) (B:=0) (f:=.mk 0 [] 0 [] [] []) (x:=⟨noS,noS,noS⟩) HRB.out HPR.out HM0.out G1.out (Nat.lt_succ_self _) (leaf_in' _ _ (by decide)) (rd_brk0 _ R1.out)
 have hlt:Chalk.mu L n1 false<Chalk.mu L n bad:=by
  obtain ⟨rfl,h2⟩:=R1.out.good
  exact R1.out.mu_lt HNL.out (fun l a r e=>(pWant_eat e).len)
 have HC2:=Lh (HF.out n1 false rfl hlt w1 G1.out.1)
 clear hlt
 go_wp2_with fail
 refine (HC2.out).mono ?_
 rintro e w2 ⟨f,x,n2,b2,rfl,hx,ho,hr,hm⟩
 have R2:=Lh ho
 have XX:=Lh (hx.toX (A:=RB+1) (B:=0) (by have:=G1.out.2.size;have:=HS0.out;omega) (by have:=G1.out.2.size;have:=HS0.out;omega))
 clear ho hx HC2 cp2
 have G2:=Lh (aI hr (G1.out.2.trans hm (fun _ _ h=>h)))
 clear hr hm
 have Xf:=XX
 clear XX
 obtain ⟨B1,hB1⟩:∃ B1,B1=w2.heap.size:=⟨_,rfl⟩
 obtain ⟨w3,hw3⟩:∃ w3,w3=w2.alloc (.cells #[.int .i64 f.kind,.string ⟨f.name.toArray⟩,.int .i64 f.n,.slice x.t.a f.terms.length x.t.cap,.slice x.b.a f.binds.length x.b.cap,.slice x.l.a f.l.length x.l.cap] 28):=⟨_,rfl⟩
 have hb:Below w2.heap.size w2 w3:=by rw [hw3];exact below_new _ _
 have hx:w3.heap[B1]?=some (.cells #[.int .i64 f.kind,.string ⟨f.name.toArray⟩,.int .i64 f.n,.slice x.t.a f.terms.length x.t.cap,.slice x.b.a f.binds.length x.b.cap,.slice x.l.a f.l.length x.l.cap] 28 (0,0)):=by rw [hw3,hB1];exact heap_alloc_new _ _
 have HKB1:Hid (RB<B1):=Lh (by have:=G2.out.2.size;have:=HS0.out;omega)
 have hm:Chalk.Mod (fun k=>k=P) w2 w3:=Chalk.Mod.of_below hb
 have Xf:=Lh (Xf.out.keep hm (fun k hk=>by have:=HPR.out;omega))
 have G3:=Lh (aI (G2.out.1.below hb) (G2.out.2.trans hm (fun _ _ h=>h)))
 clear hm
 have KB1:=Lh hx
 have HW3:=Lh hw3
 have HQB1:=Lh hB1
 clear hb hx hw3 hB1
 go_wp2_with fail
 rw [<- HW3.out,<- HQB1.out]
 have HKKB1:=HKB1
 refine (rwant_any P L n2 b2 [41] w3 G3.out.1).mono ?_
 rintro e w4 ⟨n3,b3,rfl,ho,hr,hm⟩
 have R3:=Lh ho
 clear ho
 have Xf:=Lh (Xf.out.keep hm (fun k hk=>by have:=HPR.out;omega))
 have KB1:=Lh (heap_kept KB1.out hm (by have:=HPR.out;have:=HKKB1.out;omega))
 have G4:=Lh (aI hr (G3.out.2.trans hm (fun _ _ h=>h)))
 clear hr hm
 have y0:w4.cell? ⟨B1,0,none⟩=some (.int .i64 f.kind):=cH KB1.out rfl
 have y1:w4.cell? ⟨B1,1,none⟩=some (.string ⟨f.name.toArray⟩):=cH KB1.out rfl
 have y2:w4.cell? ⟨B1,2,none⟩=some (.int .i64 f.n):=cH KB1.out rfl
 have y3:w4.cell? ⟨B1,3,none⟩=some (.slice x.t.a f.terms.length x.t.cap):=cH KB1.out rfl
 have y4:w4.cell? ⟨B1,4,none⟩=some (.slice x.b.a f.binds.length x.b.cap):=cH KB1.out rfl
 have y5:w4.cell? ⟨B1,5,none⟩=some (.slice x.l.a f.l.length x.l.cap):=cH KB1.out rfl
 obtain ⟨x0,x1,x2,x3,x4,x5,fz0,fz1,fz2,fz3,fz4,fz5,hrl⟩:=HE.out w4 G4.out.2
 go_wp2_with fail
 refine bodyPost_ret (v:=.agg #[.int .i64 f.kind,.string ⟨f.name.toArray⟩,.int .i64 f.n,.slice x.t.a f.terms.length x.t.cap,.slice x.b.a f.binds.length x.b.cap,.slice x.l.a f.l.length x.l.cap]) (by simp [results,Tryz.results190,go_sem, *]) rfl ?_
 exact RFrmP.last HRB.out HPR.out HM0.out G4.out (Nat.lt_succ_self _) Xf.out (rd_brk1 R1.out R2.out R3.out)
end Go.Proofs.YtpmalchlecnjbaaGreatDoor
/- The reference's reader: un. (written by tools/gen_ryh.py) -/
namespace Go.Chalk
open Go.RowKit
theorem RAmong.hi {L:List Tok} {ks:List Bs} {n n':Nat} {i:Int} {bad:Bool} (h:RAmong L ks n bad i n'):i<ks.length:=by
 obtain ⟨h1,_⟩:=h
 have h0:(0:Int)<=ks.length:=Int.natCast_nonneg _
 split at h1
 ·omega
 ·unfold amongF at h1
  split at h1
  ·omega
  ·split at h1
   ·rename_i t r _ _
    rcases ixFrom_ge ks 0 t.text (Int.le_refl _) with h2 | ⟨_,h2,_⟩ <;> omega
   ·omega
theorem strsAt_two {W:World} {B:Nat} {a b:Bs} {T:TypeId} (h:W.heap[B]?=some (.cells #[.string ⟨a.toArray⟩,.string ⟨b.toArray⟩] T (0,0))):StrsAt W [a,b] B:=⟨(gS h).1,fun j hj=>by
 have h2:j<2:=hj
 have:j=0∨j=1:=by omega
 rcases this with rfl | rfl <;> exact cH h rfl⟩
end Go.Chalk
namespace Go.Proofs.YtpmalchlecnjbaaGreatDoor
open Go.RowKit Go.Chalk
attribute [local go_sem] Oper.semAt_some
theorem run_stuck7 (P:Nat) (L:List Tok) (n:Nat):ROk P L 165 parUn n true:=by
 intro w h
 obtain ⟨RB,hRB⟩:∃ RB,RB=w.heap.size:=⟨_,rfl⟩
 obtain ⟨w0,hw0⟩:∃ w0,w0=w.alloc (.cells #[.int .i64 0,.string ⟨#[]⟩,.int .i64 0,.slice none 0 0,.slice none 0 0,.slice none 0 0] 28):=⟨_,rfl⟩
 have hb0:Below w.heap.size w w0:=by rw [hw0];exact below_new _ _
 have hbx:w0.heap[RB]?=some (.cells #[.int .i64 0,.string ⟨#[]⟩,.int .i64 0,.slice none 0 0,.slice none 0 0,.slice none 0 0] 28 (0,0)):=by rw [hw0,hRB];exact heap_alloc_new _ _
 have hPR:P<RB:=by rw [hRB];exact h.lt
 have hs0:w0.heap.size=RB+1:=by rw [hw0,hRB];simp
 have HE:=Lh (fun (W':World) (hW:Chalk.Mod (fun k=>k=P) w0 W')=>rdres6 hbx hPR W' hW)
 have HM0:Hid (Chalk.Mod (fun k=>k=P) w w0):=Lh (Chalk.Mod.of_below hb0)
 have HS0:=Lh hs0
 have HRB:=Lh hRB
 have HPR:=Lh hPR
 have HNL:=Lh h.place
 have HTK:=Lh h.toks
 have G0:=Lh (aI (h.below hb0) (Chalk.Mod.refl (fun k=>k=P) w0))
 have HW0:=Lh hw0
 obtain ⟨cp2,-⟩:=h.bad2
 have hPlt:=h.lt
 clear h hb0 hbx hw0 hRB hs0 hPR
 go_enter Tryz.func165,Tryz.ntmps165
 go_wp2_with fail
 refine bodyPost_ret (v:=.agg #[.int .i64 0,.string ⟨#[]⟩,.int .i64 0,.slice none 0 0,.slice none 0 0,.slice none 0 0]) (by simp [results,Tryz.results165,go_sem, *]) rfl ?_
 rw [<- HW0.out]
 exact ⟨.mk 0 [] 0 [] [] [],⟨noS,noS,noS⟩,n,true,rfl,leaf_in' _ _ (by decide),ROut.stuck _ _ _,G0.out.1,HM0.out⟩
theorem run_good7 (P:Nat) (L:List Tok) (n:Nat) (hU:∀ n' b',b'=false->Chalk.mu L n' b'<Chalk.mu L n false->ROk P L 165 parUn n' b') (hB:∀ n' b',Chalk.mu L n' b'<=Chalk.mu L n false->ROk P L 190 parBrk n' b'):ROk P L 165 parUn n false:=by
 intro w h
 obtain ⟨RB,hRB⟩:∃ RB,RB=w.heap.size:=⟨_,rfl⟩
 obtain ⟨w0,hw0⟩:∃ w0,w0=w.alloc (.cells #[.int .i64 0,.string ⟨#[]⟩,.int .i64 0,.slice none 0 0,.slice none 0 0,.slice none 0 0] 28):=⟨_,rfl⟩
 have hb0:Below w.heap.size w w0:=by rw [hw0];exact below_new _ _
 have hbx:w0.heap[RB]?=some (.cells #[.int .i64 0,.string ⟨#[]⟩,.int .i64 0,.slice none 0 0,.slice none 0 0,.slice none 0 0] 28 (0,0)):=by rw [hw0,hRB];exact heap_alloc_new _ _
 have hPR:P<RB:=by rw [hRB];exact h.lt
 have hs0:w0.heap.size=RB+1:=by rw [hw0,hRB];simp
 have HE:=Lh (fun (W':World) (hW:Chalk.Mod (fun k=>k=P) w0 W')=>rdres6 hbx hPR W' hW)
 have HM0:Hid (Chalk.Mod (fun k=>k=P) w w0):=Lh (Chalk.Mod.of_below hb0)
 have HS0:=Lh hs0
 have HRB:=Lh hRB
 have HPR:=Lh hPR
 have HNL:=Lh h.place
 have HTK:=Lh h.toks
 have G0:=Lh (aI (h.below hb0) (Chalk.Mod.refl (fun k=>k=P) w0))
 have HW0:=Lh hw0
 have HUU:=Lh hU
 have HBB:=Lh hB
 obtain ⟨cp2,-⟩:=h.bad2
 have hPlt:=h.lt
 clear h hb0 hbx hw0 hRB hs0 hPR hU hB
 go_enter Tryz.func165,Tryz.ntmps165
 go_wp2_with fail
 rw [<- HW0.out,<- HRB.out]
 refine (rtook_any P L n false [33] w0 G0.out.1).mono ?_
 rintro e w1 ⟨c,n1,rfl,ho,hr,hm⟩
 have RT:=Lh ho
 clear ho
 have G1:=Lh (aI hr (G0.out.2.trans hm (fun _ _ h=>h)))
 clear hr hm
 clear cp2 hPlt
 cases c
 rotate_left
 ·have hdum:True:=trivial
  have hy:=RT.out.yes
  have hn2:=hy.2.2
  subst hn2
  have hlt:Chalk.mu L (n+1) false<Chalk.mu L n false:=by have h2:=HNL.out;show L.length - (n+1)<L.length - n;omega
  have HC:=Lh (HUU.out (n+1) false rfl hlt w1 G1.out.1)
  clear hy hlt
  go_wp2_with fail
  refine (HC.out).mono ?_
  rintro e w2 ⟨f,x,n2,b2,rfl,hx,ho,hr,hm⟩
  have R2:=Lh ho
  have XX:=Lh (hx.toX (A:=RB+1) (B:=0) (by have:=G1.out.2.size;have:=HS0.out;omega) (by have:=G1.out.2.size;have:=HS0.out;omega))
  clear ho hx HC
  have G2:=Lh (aI hr (G1.out.2.trans hm (fun _ _ h=>h)))
  clear hr hm
  have Xf:=XX
  clear XX
  rename_i KK hKK
  dsimp only
  refine hKK _ _ ?_
  clear hKK KK
  refine wpList_step fun K hK=>?_
  rw [if_pos (by kernel_rfl)]
  go_simp
  refine hK _ _ ?_
  clear hK K
  try simp only [Act.put,ub1,ub2,ub3]
  have hb:Below w2.heap.size w2 (w2.alloc (.cells #[.int .i64 f.kind,.string ⟨f.name.toArray⟩,.int .i64 f.n,.slice x.t.a f.terms.length x.t.cap,.slice x.b.a f.binds.length x.b.cap,.slice x.l.a f.l.length x.l.cap] 28)):=below_new _ _
  have hx:(w2.alloc (.cells #[.int .i64 f.kind,.string ⟨f.name.toArray⟩,.int .i64 f.n,.slice x.t.a f.terms.length x.t.cap,.slice x.b.a f.binds.length x.b.cap,.slice x.l.a f.l.length x.l.cap] 28)).heap[w2.heap.size]?=some (.cells #[.int .i64 f.kind,.string ⟨f.name.toArray⟩,.int .i64 f.n,.slice x.t.a f.terms.length x.t.cap,.slice x.b.a f.binds.length x.b.cap,.slice x.l.a f.l.length x.l.cap] 28 (0,0)):=heap_alloc_new _ _
  obtain ⟨BR,hBR⟩:∃ BR,BR=w2.heap.size:=⟨_,rfl⟩
  have HKBR:Hid (RB<BR):=Lh (by have:=G2.out.2.size;have:=HS0.out;omega)
  rw [<- hBR] at hx ⊢
  generalize w2.alloc (.cells #[.int .i64 f.kind,.string ⟨f.name.toArray⟩,.int .i64 f.n,.slice x.t.a f.terms.length x.t.cap,.slice x.b.a f.binds.length x.b.cap,.slice x.l.a f.l.length x.l.cap] 28)=w3 at hb hx ⊢
  have hm:Chalk.Mod (fun k=>k=P) w2 w3:=Chalk.Mod.of_below hb
  have Xf:=Lh (Xf.out.keep hm (fun k hk=>by have:=HPR.out;omega))
  have G3:=Lh (aI (G2.out.1.below hb) (G2.out.2.trans hm (fun _ _ h=>h)))
  clear hm
  have KBR:=Lh hx
  have HEBR:=Lh hBR
  clear hb hx hBR
  have HKKBR:=HKBR
  obtain ⟨x0,x1,x2,x3,x4,x5,fz0,fz1,fz2,fz3,fz4,fz5,hrl⟩:=HE.out w3 G3.out.2
  go_wp2_with fail
  refine bodyPost_ret (v:=.agg #[.int .i64 10,.string ⟨#[]⟩,.int .i64 0,.slice none 0 0,.slice none 0 0,.slice (some ⟨BR,0,none⟩) 1 1]) (by simp [results,Tryz.results165,go_sem, *]) rfl ?_
  exact RFrmP.last (A:=RB+1) (B:=0) (f:=.mk 10 [] 0 [] [] [f]) (x:=⟨noS,noS,⟨some ⟨BR,0,none⟩,BR,0,1⟩⟩) HRB.out HPR.out HM0.out G3.out (Nat.lt_succ_self _) (node_one KBR.out ⟨HKBR.out,by have:=HKBR.out;omega,(gS KBR.out).1⟩ Xf.out (SlIn.nil (Nat.zero_le _) _ _ _) (by decide) (by decide)) (rd_not RT.out R2.out)
 have hn1:=RT.out.no.2
 subst hn1
 go_wp2_with fail
 obtain ⟨c2,hc2⟩:∃ c2,c2=isT [40] (L.drop n1):=⟨_,rfl⟩
 have HIS:=ris_any P L n1 false [40] w1 G1.out.1
 rw [Bool.not_false,Bool.true_and,<- hc2] at HIS
 have HIS:=Lh HIS
 have HC2:=Lh hc2
 clear hc2
 refine HIS.out.mono ?_
 rintro e w2 ⟨rfl,hb⟩
 have hm:Chalk.Mod (fun k=>k=P) w1 w2:=Chalk.Mod.of_below hb
 have G2:=Lh (aI (G1.out.1.below hb) (G1.out.2.trans hm (fun _ _ h=>h)))
 clear hm
 clear hb HIS
 cases c2
 rotate_left
 ·have hdum:True:=trivial
  have HC:=Lh (HBB.out n1 false (Nat.le_refl _) w2 G2.out.1)
  go_wp2_with fail
  refine (HC.out).mono ?_
  rintro e w3 ⟨f,x,n2,b2,rfl,hx,ho,hr,hm⟩
  have R2:=Lh ho
  have XX:=Lh (hx.toX (A:=RB+1) (B:=0) (by have:=G2.out.2.size;have:=HS0.out;omega) (by have:=G2.out.2.size;have:=HS0.out;omega))
  clear ho hx HC
  have G3:=Lh (aI hr (G2.out.2.trans hm (fun _ _ h=>h)))
  clear hr hm
  have Xf:=XX
  clear XX
  obtain ⟨x0,x1,x2,x3,x4,x5,fz0,fz1,fz2,fz3,fz4,fz5,hrl⟩:=HE.out w3 G3.out.2
  go_wp2_with fail
  refine bodyPost_ret (v:=.agg #[.int .i64 f.kind,.string ⟨f.name.toArray⟩,.int .i64 f.n,.slice x.t.a f.terms.length x.t.cap,.slice x.b.a f.binds.length x.b.cap,.slice x.l.a f.l.length x.l.cap]) (by simp [results,Tryz.results165,go_sem, *]) rfl ?_
  exact RFrmP.last (A:=RB+1) (B:=0) (f:=f) (x:=x) HRB.out HPR.out HM0.out G3.out (Nat.lt_succ_self _) (Xf.out) (rd_unbrk RT.out HC2.out.symm R2.out)
 go_wp2_with (with_reducible refine wpList_row ?_)
 unfold Hold
 refine wpList_step fun K hK=>?_
 rw [if_pos (by kernel_rfl)]
 go_simp
 refine hK _ _ ?_
 clear hK K
 try simp only [Act.put,ub1,ub2,ub3]
 have hb:Below w2.heap.size w2 (w2.alloc (.cells #[.string ⟨#[97,108,108]⟩,.string ⟨#[115,111,109,101]⟩] 9)):=below_new _ _
 have hx:(w2.alloc (.cells #[.string ⟨#[97,108,108]⟩,.string ⟨#[115,111,109,101]⟩] 9)).heap[w2.heap.size]?=some (.cells #[.string ⟨#[97,108,108]⟩,.string ⟨#[115,111,109,101]⟩] 9 (0,0)):=heap_alloc_new _ _
 obtain ⟨BA,hBA⟩:∃ BA,BA=w2.heap.size:=⟨_,rfl⟩
 have HKBA:Hid (RB<BA):=Lh (by have:=G2.out.2.size;have:=HS0.out;omega)
 rw [<- hBA] at hx ⊢
 generalize w2.alloc (.cells #[.string ⟨#[97,108,108]⟩,.string ⟨#[115,111,109,101]⟩] 9)=w3 at hb hx ⊢
 have hm:Chalk.Mod (fun k=>k=P) w2 w3:=Chalk.Mod.of_below hb
 have G3:=Lh (aI (G2.out.1.below hb) (G2.out.2.trans hm (fun _ _ h=>h)))
 clear hm
 have KBA:=Lh hx
 have HEBA:=Lh hBA
 clear hb hx hBA
 have HKKBA:=HKBA
 have HST:Hid (StrsAt w3 allsL BA):=Lh (strsAt_two KBA.out)
 have HAM:=Lh (ramong_any P L n1 false allsL BA 2 2 w3 G3.out.1 HST.out rfl (Nat.le_refl _) (by decide))
 clear KBA HKKBA HKBA
 go_wp2_with fail
 refine (HAM.out).mono ?_
 rintro e w4 ⟨i,nx,rfl,ho,hr,hm⟩
 have RA:=Lh ho
 clear ho
 have G4:=Lh (aI hr (G3.out.2.trans hm (fun _ _ h=>h)))
 clear hr hm
 clear HST HAM
 by_cases hi:0<=i
 ·have hdum:True:=trivial
  have hi2:decide (0<=i)=true:=decide_eq_true hi
  have hih:=RA.out.hi
  have hih2:i<2:=hih
  have HI:Hid (0<=i/\i<2):=Lh ⟨hi,hih2⟩
  have hnx:=(RA.out.got hi).2.2
  subst hnx
  clear hih
  have HX:=Lh (rbinds_any7 P L (n1+1) false w4 G4.out.1)
  go_wp2_with fail
  refine (HX.out).mono ?_
  rintro e w5 ⟨bs,v,n2,b2,rfl,hv,ho,hr,hm⟩
  obtain ⟨z,rfl,hz⟩:=hv.sl (bnds_widths _)
  rw [List.length_map]
  simp only [SlA.val]
  have R2:=Lh ho
  have XX:=Lh (SlIn.toX (lo:=w4.heap.size) hz (A:=RB+1) (B:=0) (by have:=G4.out.2.size;have:=HS0.out;omega) (by have:=G4.out.2.size;have:=HS0.out;omega))
  clear ho hz hv HX
  have G5:=Lh (aI hr (G4.out.2.trans hm (fun _ _ h=>h)))
  clear hr hm
  have Xbs:=XX
  clear XX
  have Xbs:=Lh (show SlIn w5 (Fx (RB+1) w5.heap.size w5) (bs.map Bnd.toD) z from Xbs.out.mono (fun k hk=>⟨hk.1,by have:=hk.2.2;omega,hk.2.2⟩))
  obtain ⟨B4,hB4⟩:∃ B4,B4=w5.heap.size:=⟨_,rfl⟩
  rw [<- hB4] at Xbs
  obtain ⟨w6,hw6⟩:∃ w6,w6=w5.alloc (.cells #[.int .i64 (14+i),.string ⟨#[]⟩,.int .i64 0,.slice none 0 0,.slice z.a bs.length z.cap,.slice none 0 0] 28):=⟨_,rfl⟩
  have hb:Below w5.heap.size w5 w6:=by rw [hw6];exact below_new _ _
  have hx:w6.heap[B4]?=some (.cells #[.int .i64 (14+i),.string ⟨#[]⟩,.int .i64 0,.slice none 0 0,.slice z.a bs.length z.cap,.slice none 0 0] 28 (0,0)):=by rw [hw6,hB4];exact heap_alloc_new _ _
  have HKB4:Hid (RB<B4):=Lh (by have:=G5.out.2.size;have:=HS0.out;omega)
  have hm:Chalk.Mod (fun k=>k=P) w5 w6:=Chalk.Mod.of_below hb
  have Xbs:=Lh (Xbs.out.keep hm (fun k hk=>by have:=HPR.out;omega))
  have G6:=Lh (aI (G5.out.1.below hb) (G5.out.2.trans hm (fun _ _ h=>h)))
  clear hm
  have KB4:=Lh hx
  have HW6:=Lh hw6
  have HQB4:=Lh hB4
  have HKKB4:=HKB4
  clear hb hx hw6 hB4
  go_wp2_with fail
  rw [<- HW6.out,<- HQB4.out]
  have hle:Chalk.mu L n2 b2<=Chalk.mu L n1 false:=Nat.le_trans (R2.out.mu (fun l a r e=>Nat.le_of_lt (pBinds_eat 5 _ _ _ e).len)) (by show L.length - (n1+1)<=L.length - n1;omega)
  have HC:=Lh (HBB.out n2 b2 hle w6 G6.out.1)
  clear hle
  have HNE0:=Lh (gS KB4.out).1
  refine (HC.out).mono ?_
  rintro e w7 ⟨f,x,n3,b3,rfl,hx,ho,hr,hm⟩
  have R3:=Lh ho
  have XX:=Lh (hx.toX (A:=RB+1) (B:=B4) (by have:=G6.out.2.size;have:=HS0.out;omega) ((gS KB4.out).1))
  clear ho hx HC
  have Xbs:=Lh (Xbs.out.keep hm (fun k hk=>by have:=HPR.out;omega))
  have KB4:=Lh (heap_kept KB4.out hm (by have:=HPR.out;have:=HKKB4.out;omega))
  have G7:=Lh (aI hr (G6.out.2.trans hm (fun _ _ h=>h)))
  clear hr hm
  have Xf:=XX
  clear XX
  have HNE:Hid (B4<w7.heap.size):=Lh (gS KB4.out).1
  have HNE2:=HNE
  rename_i KK hKK
  dsimp only
  refine hKK _ _ ?_
  clear hKK KK
  refine wpList_step fun K hK=>?_
  rw [if_pos (by kernel_rfl)]
  go_simp
  refine hK _ _ ?_
  clear hK K
  try simp only [Act.put,ub1,ub2,ub3]
  have hb:Below w7.heap.size w7 (w7.alloc (.cells #[.int .i64 f.kind,.string ⟨f.name.toArray⟩,.int .i64 f.n,.slice x.t.a f.terms.length x.t.cap,.slice x.b.a f.binds.length x.b.cap,.slice x.l.a f.l.length x.l.cap] 28)):=below_new _ _
  have hx:(w7.alloc (.cells #[.int .i64 f.kind,.string ⟨f.name.toArray⟩,.int .i64 f.n,.slice x.t.a f.terms.length x.t.cap,.slice x.b.a f.binds.length x.b.cap,.slice x.l.a f.l.length x.l.cap] 28)).heap[w7.heap.size]?=some (.cells #[.int .i64 f.kind,.string ⟨f.name.toArray⟩,.int .i64 f.n,.slice x.t.a f.terms.length x.t.cap,.slice x.b.a f.binds.length x.b.cap,.slice x.l.a f.l.length x.l.cap] 28 (0,0)):=heap_alloc_new _ _
  obtain ⟨BR,hBR⟩:∃ BR,BR=w7.heap.size:=⟨_,rfl⟩
  have HKBR:Hid (RB<BR):=Lh (by have:=G7.out.2.size;have:=HS0.out;omega)
  rw [<- hBR] at hx ⊢
  generalize w7.alloc (.cells #[.int .i64 f.kind,.string ⟨f.name.toArray⟩,.int .i64 f.n,.slice x.t.a f.terms.length x.t.cap,.slice x.b.a f.binds.length x.b.cap,.slice x.l.a f.l.length x.l.cap] 28)=w8 at hb hx ⊢
  have hm:Chalk.Mod (fun k=>k=P) w7 w8:=Chalk.Mod.of_below hb
  have Xbs:=Lh (Xbs.out.keep hm (fun k hk=>by have:=HPR.out;omega))
  have KB4:=Lh (heap_kept KB4.out hm (by have:=HPR.out;have:=HKKB4.out;omega))
  have Xf:=Lh (Xf.out.keep hm (fun k hk=>by have:=HPR.out;omega))
  have G8:=Lh (aI (G7.out.1.below hb) (G7.out.2.trans hm (fun _ _ h=>h)))
  clear hm
  have KBR:=Lh hx
  have HEBR:=Lh hBR
  clear hb hx hBR
  have HKKBR:=HKBR
  have hdum:True:=trivial
  have XN:=Lh (node_one (k:=14+i) (n:=0) (G:=Fx (RB+1) B4 w8) KBR.out ⟨HKBR.out,by have:=HNE.out;have:=HEBR.out;omega,(gS KBR.out).1⟩ Xf.out Xbs.out ⟨by have:=HI.out.1;omega,by have:=HI.out.2;omega⟩ (by decide))
  have y0:w8.cell? ⟨B4,0,none⟩=some (.int .i64 (14+i)):=cH KB4.out rfl
  have y1:w8.cell? ⟨B4,1,none⟩=some (.string ⟨#[]⟩):=cH KB4.out rfl
  have y2:w8.cell? ⟨B4,2,none⟩=some (.int .i64 0):=cH KB4.out rfl
  have y3:w8.cell? ⟨B4,3,none⟩=some (.slice none 0 0):=cH KB4.out rfl
  have y4:w8.cell? ⟨B4,4,none⟩=some (.slice z.a bs.length z.cap):=cH KB4.out rfl
  have y5:w8.cell? ⟨B4,5,none⟩=some (.slice none 0 0):=cH KB4.out rfl
  have q0:w8.frozen? ⟨B4,0,none⟩=false:=fH KB4.out
  have q1:w8.frozen? ⟨B4,1,none⟩=false:=fH KB4.out
  have q2:w8.frozen? ⟨B4,2,none⟩=false:=fH KB4.out
  have q3:w8.frozen? ⟨B4,3,none⟩=false:=fH KB4.out
  have q4:w8.frozen? ⟨B4,4,none⟩=false:=fH KB4.out
  have q5:w8.frozen? ⟨B4,5,none⟩=false:=fH KB4.out
  have hBl:B4<w8.heap.size:=(gS KB4.out).1
  have hne1:¬ RB=B4:=by have:=HKKB4.out;omega
  have hne2:¬ B4=RB:=by have:=HKKB4.out;omega
  obtain ⟨x0,x1,x2,x3,x4,x5,fz0,fz1,fz2,fz3,fz4,fz5,hrl⟩:=HE.out w8 G8.out.2
  obtain ⟨w9,hw9⟩:∃ w9,w9=w8.setCell ⟨B4,5,none⟩ (.slice (some ⟨BR,0,none⟩) 1 1):=⟨_,rfl⟩
  have hmB:Chalk.Mod (fun k=>k=B4) w8 w9:=by rw [hw9];exact (Chalk.Mod.refl (fun k=>k=B4) w8).setCell (p:=⟨B4,5,none⟩) (fun _=>rfl) _
  have hkB:w9.heap[B4]?=some (.cells #[.int .i64 (14+i),.string ⟨#[]⟩,.int .i64 0,.slice none 0 0,.slice z.a bs.length z.cap,.slice (some ⟨BR,0,none⟩) 1 1] 28 (0,0)):=by rw [hw9];exact box_store (i:=5) (.slice (some ⟨BR,0,none⟩) 1 1) KB4.out
  have XN:=Lh (XN.out.keep hmB (fun k hk=>.inr hk))
  have KB4:=Lh hkB
  have G9:=Lh (aI (RdAt.far G8.out.1 hmB (fun k hk=>by have:=HPR.out;have:=HKKB4.out;omega)) (mod_one G8.out.2 hmB (by have:=HKKB4.out;have:=HS0.out;omega)))
  have HW9:=Lh hw9
  clear hmB hkB hw9
  have HGN:=G9
  rw [HW9.out] at XN HGN
  clear KB4
  go_wp2_with fail
  refine bodyPost_ret (v:=.agg #[.int .i64 (14+i),.string ⟨#[]⟩,.int .i64 0,.slice none 0 0,.slice z.a bs.length z.cap,.slice (some ⟨BR,0,none⟩) 1 1]) (by simp [results,Tryz.results165,go_sem, *]) rfl ?_
  exact RFrmP.last (A:=RB+1) (B:=B4) (f:=.mk (14+i) [] 0 [] bs [f]) (x:=⟨noS,z,⟨some ⟨BR,0,none⟩,BR,0,1⟩⟩) HRB.out HPR.out HM0.out HGN.out (Nat.lt_succ_self _) XN.out ((rd_all HTK.out HNL.out RA.out HI.out.1 R2.out R3.out).1)
 have hi2:decide (0<=i)=false:=decide_eq_false hi
 have HNA:Hid (amongF allsL (L.drop n1)<0):=Lh ((RA.out.none (by omega)).1 rfl)
 have hnx:=(RA.out.none (by omega)).2
 subst hnx
 clear hi RA
 go_wp2_with (with_reducible refine wpList_row ?_)
 unfold Hold
 refine wpList_step fun K hK=>?_
 rw [if_pos (by kernel_rfl)]
 go_simp
 refine hK _ _ ?_
 clear hK K
 try simp only [Act.put,ub1,ub2,ub3]
 have hb:Below w4.heap.size w4 (w4.alloc (.cells #[.string ⟨#[108,101,97,115,116]⟩,.string ⟨#[109,111,115,116]⟩] 9)):=below_new _ _
 have hx:(w4.alloc (.cells #[.string ⟨#[108,101,97,115,116]⟩,.string ⟨#[109,111,115,116]⟩] 9)).heap[w4.heap.size]?=some (.cells #[.string ⟨#[108,101,97,115,116]⟩,.string ⟨#[109,111,115,116]⟩] 9 (0,0)):=heap_alloc_new _ _
 obtain ⟨BL,hBL⟩:∃ BL,BL=w4.heap.size:=⟨_,rfl⟩
 have HKBL:Hid (RB<BL):=Lh (by have:=G4.out.2.size;have:=HS0.out;omega)
 rw [<- hBL] at hx ⊢
 generalize w4.alloc (.cells #[.string ⟨#[108,101,97,115,116]⟩,.string ⟨#[109,111,115,116]⟩] 9)=w5 at hb hx ⊢
 have hm:Chalk.Mod (fun k=>k=P) w4 w5:=Chalk.Mod.of_below hb
 have G5:=Lh (aI (G4.out.1.below hb) (G4.out.2.trans hm (fun _ _ h=>h)))
 clear hm
 have KBL:=Lh hx
 have HEBL:=Lh hBL
 clear hb hx hBL
 have HKKBL:=HKBL
 have HST:Hid (StrsAt w5 leastsL BL):=Lh (strsAt_two KBL.out)
 have HAM:=Lh (ramong_any P L nx false leastsL BL 2 2 w5 G5.out.1 HST.out rfl (Nat.le_refl _) (by decide))
 clear KBL HKKBL HKBL
 go_wp2_with fail
 refine (HAM.out).mono ?_
 rintro e w6 ⟨i2,ny,rfl,ho,hr,hm⟩
 have RL:=Lh ho
 clear ho
 have G6:=Lh (aI hr (G5.out.2.trans hm (fun _ _ h=>h)))
 clear hr hm
 clear HST HAM
 by_cases hi:0<=i2
 ·have hdum:True:=trivial
  have hi3:decide (0<=i2)=true:=decide_eq_true hi
  have hih:=RL.out.hi
  have hih2:i2<2:=hih
  have HI:Hid (0<=i2/\i2<2):=Lh ⟨hi,hih2⟩
  have hnx:=(RL.out.got hi).2.2
  subst hnx
  clear hih
  have HX:=Lh (rnumber_any P L 0 1099511627776 (by decide) (nx+1) false w6 G6.out.1)
  go_wp2_with fail
  refine HX.out.mono ?_
  rintro e w7 ⟨v,n2,b2,rfl,hv,ho,hr,hm⟩
  have R1:=Lh ho
  have HV:=Lh hv
  clear ho hv HX
  have G7:=Lh (aI hr (G6.out.2.trans hm (fun _ _ h=>h)))
  clear hr hm
  obtain ⟨B6,hB6⟩:∃ B6,B6=w7.heap.size:=⟨_,rfl⟩
  obtain ⟨w8,hw8⟩:∃ w8,w8=w7.alloc (.cells #[.int .i64 (16+i2),.string ⟨#[]⟩,.int .i64 v,.slice none 0 0,.slice none 0 0,.slice none 0 0] 28):=⟨_,rfl⟩
  have hb:Below w7.heap.size w7 w8:=by rw [hw8];exact below_new _ _
  have hx:w8.heap[B6]?=some (.cells #[.int .i64 (16+i2),.string ⟨#[]⟩,.int .i64 v,.slice none 0 0,.slice none 0 0,.slice none 0 0] 28 (0,0)):=by rw [hw8,hB6];exact heap_alloc_new _ _
  have HKB6:Hid (RB<B6):=Lh (by have:=G7.out.2.size;have:=HS0.out;omega)
  have hm:Chalk.Mod (fun k=>k=P) w7 w8:=Chalk.Mod.of_below hb
  have G8:=Lh (aI (G7.out.1.below hb) (G7.out.2.trans hm (fun _ _ h=>h)))
  clear hm
  have KB6:=Lh hx
  have HW8:=Lh hw8
  have HQB6:=Lh hB6
  have HKKB6:=HKB6
  clear hb hx hw8 hB6
  go_wp2_with fail
  rw [<- HW8.out,<- HQB6.out]
  have HX:=Lh (rbinds_any7 P L n2 b2 w8 G8.out.1)
  refine (HX.out).mono ?_
  rintro e w9 ⟨bs,v,n3,b3,rfl,hv,ho,hr,hm⟩
  obtain ⟨z,rfl,hz⟩:=hv.sl (bnds_widths _)
  rw [List.length_map]
  simp only [SlA.val]
  have R2:=Lh ho
  have XX:=Lh (SlIn.toX (lo:=w8.heap.size) hz (A:=RB+1) (B:=B6) (by have:=G8.out.2.size;have:=HS0.out;omega) ((gS KB6.out).1))
  clear ho hz hv HX
  have KB6:=Lh (heap_kept KB6.out hm (by have:=HPR.out;have:=HKKB6.out;omega))
  have G9:=Lh (aI hr (G8.out.2.trans hm (fun _ _ h=>h)))
  clear hr hm
  have Xbs:=XX
  clear XX
  have y0:w9.cell? ⟨B6,0,none⟩=some (.int .i64 (16+i2)):=cH KB6.out rfl
  have y1:w9.cell? ⟨B6,1,none⟩=some (.string ⟨#[]⟩):=cH KB6.out rfl
  have y2:w9.cell? ⟨B6,2,none⟩=some (.int .i64 v):=cH KB6.out rfl
  have y3:w9.cell? ⟨B6,3,none⟩=some (.slice none 0 0):=cH KB6.out rfl
  have y4:w9.cell? ⟨B6,4,none⟩=some (.slice none 0 0):=cH KB6.out rfl
  have y5:w9.cell? ⟨B6,5,none⟩=some (.slice none 0 0):=cH KB6.out rfl
  have q0:w9.frozen? ⟨B6,0,none⟩=false:=fH KB6.out
  have q1:w9.frozen? ⟨B6,1,none⟩=false:=fH KB6.out
  have q2:w9.frozen? ⟨B6,2,none⟩=false:=fH KB6.out
  have q3:w9.frozen? ⟨B6,3,none⟩=false:=fH KB6.out
  have q4:w9.frozen? ⟨B6,4,none⟩=false:=fH KB6.out
  have q5:w9.frozen? ⟨B6,5,none⟩=false:=fH KB6.out
  have hBl:B6<w9.heap.size:=(gS KB6.out).1
  obtain ⟨w10,hw10⟩:∃ w10,w10=w9.setCell ⟨B6,4,none⟩ (.slice z.a bs.length z.cap):=⟨_,rfl⟩
  have hmB:Chalk.Mod (fun k=>k=B6) w9 w10:=by rw [hw10];exact (Chalk.Mod.refl (fun k=>k=B6) w9).setCell (p:=⟨B6,4,none⟩) (fun _=>rfl) _
  have hkB:w10.heap[B6]?=some (.cells #[.int .i64 (16+i2),.string ⟨#[]⟩,.int .i64 v,.slice none 0 0,.slice z.a bs.length z.cap,.slice none 0 0] 28 (0,0)):=by rw [hw10];exact box_store (i:=4) (.slice z.a bs.length z.cap) KB6.out
  have Xbs:=Lh (Xbs.out.keep hmB (fun k hk=>.inr hk))
  have KB6:=Lh hkB
  have G10:=Lh (aI (RdAt.far G9.out.1 hmB (fun k hk=>by have:=HPR.out;have:=HKKB6.out;omega)) (mod_one G9.out.2 hmB (by have:=HKKB6.out;have:=HS0.out;omega)))
  have HW10:=Lh hw10
  clear hmB hkB hw10
  go_wp2_with fail
  rw [<- HW10.out]
  clear y0 y1 y2 y3 y4 y5 q0 q1 q2 q3 q4 q5 hBl
  have hle:Chalk.mu L n3 b3<=Chalk.mu L nx false:=Nat.le_trans (R2.out.mu (fun l a r e=>Nat.le_of_lt (pBinds_eat 5 _ _ _ e).len)) (Nat.le_trans (R1.out.mu (fun l a r e=>Nat.le_of_lt (pNumber_eat e).len)) (by show L.length - (nx+1)<=L.length - nx;omega))
  have HC:=Lh (HBB.out n3 b3 hle w10 G10.out.1)
  clear hle
  refine (HC.out).mono ?_
  rintro e w11 ⟨f,x,n4,b4,rfl,hx,ho,hr,hm⟩
  have R3:=Lh ho
  have XX:=Lh (hx.toX (A:=RB+1) (B:=B6) (by have:=G10.out.2.size;have:=HS0.out;omega) ((gS KB6.out).1))
  clear ho hx HC
  have KB6:=Lh (heap_kept KB6.out hm (by have:=HPR.out;have:=HKKB6.out;omega))
  have Xbs:=Lh (Xbs.out.keep hm (fun k hk=>by have:=HPR.out;omega))
  have G11:=Lh (aI hr (G10.out.2.trans hm (fun _ _ h=>h)))
  clear hr hm
  have Xf:=XX
  clear XX
  have HNE:Hid (B6<w11.heap.size):=Lh (gS KB6.out).1
  have HNE2:=HNE
  rename_i KK hKK
  dsimp only
  refine hKK _ _ ?_
  clear hKK KK
  refine wpList_step fun K hK=>?_
  rw [if_pos (by kernel_rfl)]
  go_simp
  refine hK _ _ ?_
  clear hK K
  try simp only [Act.put,ub1,ub2,ub3]
  have hb:Below w11.heap.size w11 (w11.alloc (.cells #[.int .i64 f.kind,.string ⟨f.name.toArray⟩,.int .i64 f.n,.slice x.t.a f.terms.length x.t.cap,.slice x.b.a f.binds.length x.b.cap,.slice x.l.a f.l.length x.l.cap] 28)):=below_new _ _
  have hx:(w11.alloc (.cells #[.int .i64 f.kind,.string ⟨f.name.toArray⟩,.int .i64 f.n,.slice x.t.a f.terms.length x.t.cap,.slice x.b.a f.binds.length x.b.cap,.slice x.l.a f.l.length x.l.cap] 28)).heap[w11.heap.size]?=some (.cells #[.int .i64 f.kind,.string ⟨f.name.toArray⟩,.int .i64 f.n,.slice x.t.a f.terms.length x.t.cap,.slice x.b.a f.binds.length x.b.cap,.slice x.l.a f.l.length x.l.cap] 28 (0,0)):=heap_alloc_new _ _
  obtain ⟨BR,hBR⟩:∃ BR,BR=w11.heap.size:=⟨_,rfl⟩
  have HKBR:Hid (RB<BR):=Lh (by have:=G11.out.2.size;have:=HS0.out;omega)
  rw [<- hBR] at hx ⊢
  generalize w11.alloc (.cells #[.int .i64 f.kind,.string ⟨f.name.toArray⟩,.int .i64 f.n,.slice x.t.a f.terms.length x.t.cap,.slice x.b.a f.binds.length x.b.cap,.slice x.l.a f.l.length x.l.cap] 28)=w12 at hb hx ⊢
  have hm:Chalk.Mod (fun k=>k=P) w11 w12:=Chalk.Mod.of_below hb
  have KB6:=Lh (heap_kept KB6.out hm (by have:=HPR.out;have:=HKKB6.out;omega))
  have Xbs:=Lh (Xbs.out.keep hm (fun k hk=>by have:=HPR.out;omega))
  have Xf:=Lh (Xf.out.keep hm (fun k hk=>by have:=HPR.out;omega))
  have G12:=Lh (aI (G11.out.1.below hb) (G11.out.2.trans hm (fun _ _ h=>h)))
  clear hm
  have KBR:=Lh hx
  have HEBR:=Lh hBR
  clear hb hx hBR
  have HKKBR:=HKBR
  have hdum:True:=trivial
  have XN:=Lh (node_one (k:=16+i2) (n:=v) (G:=Fx (RB+1) B6 w12) KBR.out ⟨HKBR.out,by have:=HNE.out;have:=HEBR.out;omega,(gS KBR.out).1⟩ Xf.out Xbs.out ⟨by have:=HI.out.1;omega,by have:=HI.out.2;omega⟩ HV.out)
  have y0:w12.cell? ⟨B6,0,none⟩=some (.int .i64 (16+i2)):=cH KB6.out rfl
  have y1:w12.cell? ⟨B6,1,none⟩=some (.string ⟨#[]⟩):=cH KB6.out rfl
  have y2:w12.cell? ⟨B6,2,none⟩=some (.int .i64 v):=cH KB6.out rfl
  have y3:w12.cell? ⟨B6,3,none⟩=some (.slice none 0 0):=cH KB6.out rfl
  have y4:w12.cell? ⟨B6,4,none⟩=some (.slice z.a bs.length z.cap):=cH KB6.out rfl
  have y5:w12.cell? ⟨B6,5,none⟩=some (.slice none 0 0):=cH KB6.out rfl
  have q0:w12.frozen? ⟨B6,0,none⟩=false:=fH KB6.out
  have q1:w12.frozen? ⟨B6,1,none⟩=false:=fH KB6.out
  have q2:w12.frozen? ⟨B6,2,none⟩=false:=fH KB6.out
  have q3:w12.frozen? ⟨B6,3,none⟩=false:=fH KB6.out
  have q4:w12.frozen? ⟨B6,4,none⟩=false:=fH KB6.out
  have q5:w12.frozen? ⟨B6,5,none⟩=false:=fH KB6.out
  have hBl:B6<w12.heap.size:=(gS KB6.out).1
  have hne1:¬ RB=B6:=by have:=HKKB6.out;omega
  have hne2:¬ B6=RB:=by have:=HKKB6.out;omega
  obtain ⟨x0,x1,x2,x3,x4,x5,fz0,fz1,fz2,fz3,fz4,fz5,hrl⟩:=HE.out w12 G12.out.2
  obtain ⟨w13,hw13⟩:∃ w13,w13=w12.setCell ⟨B6,5,none⟩ (.slice (some ⟨BR,0,none⟩) 1 1):=⟨_,rfl⟩
  have hmB:Chalk.Mod (fun k=>k=B6) w12 w13:=by rw [hw13];exact (Chalk.Mod.refl (fun k=>k=B6) w12).setCell (p:=⟨B6,5,none⟩) (fun _=>rfl) _
  have hkB:w13.heap[B6]?=some (.cells #[.int .i64 (16+i2),.string ⟨#[]⟩,.int .i64 v,.slice none 0 0,.slice z.a bs.length z.cap,.slice (some ⟨BR,0,none⟩) 1 1] 28 (0,0)):=by rw [hw13];exact box_store (i:=5) (.slice (some ⟨BR,0,none⟩) 1 1) KB6.out
  have XN:=Lh (XN.out.keep hmB (fun k hk=>.inr hk))
  have KB6:=Lh hkB
  have G13:=Lh (aI (RdAt.far G12.out.1 hmB (fun k hk=>by have:=HPR.out;have:=HKKB6.out;omega)) (mod_one G12.out.2 hmB (by have:=HKKB6.out;have:=HS0.out;omega)))
  have HW13:=Lh hw13
  clear hmB hkB hw13
  have HGN:=G13
  rw [HW13.out] at XN HGN
  clear KB6
  go_wp2_with fail
  refine bodyPost_ret (v:=.agg #[.int .i64 (16+i2),.string ⟨#[]⟩,.int .i64 v,.slice none 0 0,.slice z.a bs.length z.cap,.slice (some ⟨BR,0,none⟩) 1 1]) (by simp [results,Tryz.results165,go_sem, *]) rfl ?_
  exact RFrmP.last (A:=RB+1) (B:=B6) (f:=.mk (16+i2) [] v [] bs [f]) (x:=⟨noS,z,⟨some ⟨BR,0,none⟩,BR,0,1⟩⟩) HRB.out HPR.out HM0.out HGN.out (Nat.lt_succ_self _) XN.out ((rd_least HTK.out HNL.out RL.out HI.out.1 HNA.out R1.out R2.out R3.out).1)
 have hi3:decide (0<=i2)=false:=decide_eq_false hi
 have HNB:Hid (amongF leastsL (L.drop nx)<0):=Lh ((RL.out.none (by omega)).1 rfl)
 have hny:=(RL.out.none (by omega)).2
 subst hny
 clear hi RL
 go_wp2_with (with_reducible refine wpList_row ?_)
 unfold Hold
 refine wpList_step fun K hK=>?_
 rw [if_pos (by kernel_rfl)]
 go_simp
 refine hK _ _ ?_
 clear hK K
 try simp only [Act.put,ub1,ub2,ub3]
 have hb:Below w6.heap.size w6 (w6.alloc (.cells #[.string ⟨#[116,114,117,101]⟩,.string ⟨#[102,97,108,115,101]⟩] 9)):=below_new _ _
 have hx:(w6.alloc (.cells #[.string ⟨#[116,114,117,101]⟩,.string ⟨#[102,97,108,115,101]⟩] 9)).heap[w6.heap.size]?=some (.cells #[.string ⟨#[116,114,117,101]⟩,.string ⟨#[102,97,108,115,101]⟩] 9 (0,0)):=heap_alloc_new _ _
 obtain ⟨BT,hBT⟩:∃ BT,BT=w6.heap.size:=⟨_,rfl⟩
 have HKBT:Hid (RB<BT):=Lh (by have:=G6.out.2.size;have:=HS0.out;omega)
 rw [<- hBT] at hx ⊢
 generalize w6.alloc (.cells #[.string ⟨#[116,114,117,101]⟩,.string ⟨#[102,97,108,115,101]⟩] 9)=w7 at hb hx ⊢
 have hm:Chalk.Mod (fun k=>k=P) w6 w7:=Chalk.Mod.of_below hb
 have G7:=Lh (aI (G6.out.1.below hb) (G6.out.2.trans hm (fun _ _ h=>h)))
 clear hm
 have KBT:=Lh hx
 have HEBT:=Lh hBT
 clear hb hx hBT
 have HKKBT:=HKBT
 have HST:Hid (StrsAt w7 truesL BT):=Lh (strsAt_two KBT.out)
 have HAM:=Lh (ramong_any P L ny false truesL BT 2 2 w7 G7.out.1 HST.out rfl (Nat.le_refl _) (by decide))
 clear KBT HKKBT HKBT
 go_wp2_with fail
 refine (HAM.out).mono ?_
 rintro e w8 ⟨i3,nz,rfl,ho,hr,hm⟩
 have RR:=Lh ho
 clear ho
 have G8:=Lh (aI hr (G7.out.2.trans hm (fun _ _ h=>h)))
 clear hr hm
 clear HST HAM
 by_cases hi:0<=i3
 ·have hdum:True:=trivial
  have hi4:decide (0<=i3)=true:=decide_eq_true hi
  have hih:=RR.out.hi
  have hih2:i3<2:=hih
  have HI:Hid (0<=i3/\i3<2):=Lh ⟨hi,hih2⟩
  clear hih
  obtain ⟨x0,x1,x2,x3,x4,x5,fz0,fz1,fz2,fz3,fz4,fz5,hrl⟩:=HE.out w8 G8.out.2
  go_wp2_with fail
  refine bodyPost_ret (v:=.agg #[.int .i64 (1+i3),.string ⟨#[]⟩,.int .i64 0,.slice none 0 0,.slice none 0 0,.slice none 0 0]) (by simp [results,Tryz.results165,go_sem, *]) rfl ?_
  exact RFrmP.last (A:=RB+1) (B:=0) (f:=.mk (1+i3) [] 0 [] [] []) (x:=⟨noS,noS,noS⟩) HRB.out HPR.out HM0.out G8.out (Nat.lt_succ_self _) (leaf_in' _ _ ⟨by have:=HI.out.1;omega,by have:=HI.out.2;omega⟩) ((rd_true HTK.out HNL.out RR.out HI.out.1).1)
 have hi4:decide (0<=i3)=false:=decide_eq_false hi
 have HNC:Hid (amongF truesL (L.drop ny)<0):=Lh ((RR.out.none (by omega)).1 rfl)
 have hnz:=(RR.out.none (by omega)).2
 subst hnz
 clear hi RR
 have HC:=Lh (ratom_any P L nz false w8 G8.out.1)
 go_wp2_with fail
 refine (HC.out).mono ?_
 rintro e w9 ⟨f,x,n2,b2,rfl,hx,ho,hr,hm⟩
 have R2:=Lh ho
 have XX:=Lh (hx.toX (A:=RB+1) (B:=0) (by have:=G8.out.2.size;have:=HS0.out;omega) (by have:=G8.out.2.size;have:=HS0.out;omega))
 clear ho hx HC
 have G9:=Lh (aI hr (G8.out.2.trans hm (fun _ _ h=>h)))
 clear hr hm
 have Xf:=XX
 clear XX
 obtain ⟨x0,x1,x2,x3,x4,x5,fz0,fz1,fz2,fz3,fz4,fz5,hrl⟩:=HE.out w9 G9.out.2
 go_wp2_with fail
 refine bodyPost_ret (v:=.agg #[.int .i64 f.kind,.string ⟨f.name.toArray⟩,.int .i64 f.n,.slice x.t.a f.terms.length x.t.cap,.slice x.b.a f.binds.length x.b.cap,.slice x.l.a f.l.length x.l.cap]) (by simp [results,Tryz.results165,go_sem, *]) rfl ?_
 exact RFrmP.last (A:=RB+1) (B:=0) (f:=f) (x:=x) HRB.out HPR.out HM0.out G9.out (Nat.lt_succ_self _) (Xf.out) (rd_unatom HTK.out HNL.out RT.out HC2.out.symm HNA.out HNB.out HNC.out R2.out)
theorem run_any7 (P:Nat) (L:List Tok) (n:Nat) (bad:Bool) (hU:∀ n' b',b'=false->Chalk.mu L n' b'<Chalk.mu L n bad->ROk P L 165 parUn n' b') (hB:∀ n' b',Chalk.mu L n' b'<=Chalk.mu L n bad->ROk P L 190 parBrk n' b'):ROk P L 165 parUn n bad:=by
 cases bad with
 | true=>exact run_stuck7 P L n
 | false=>exact run_good7 P L n hU hB
end Go.Proofs.YtpmalchlecnjbaaGreatDoor
/- The reference's reader: formulas by induction; the reference's Form. (written by tools/gen_ryi.py) -/
namespace Go.Chalk
open Go.RowKit
theorem rtoks_ok {b:Bs} (h:(tokensF b).2.2=0):RToks (tokensF b).1:=by
 unfold tokensF at h ⊢
 split at h
 ·cases h
 ·rename_i hb
  rw [if_neg hb]
  rcases hq:lexS b 0 [] with ⟨res,x,er⟩
  rw [hq] at h
  simp only at h ⊢
  subst h
  obtain ⟨toks,n,rfl,h1,h2,h3⟩:=goF_right (b.length+1) b 0 [] res x (by omega) hq
  rw [List.nil_append]
  intro t ht
  rcases List.mem_append.1 ht with ht | ht
  ·exact .inr (List.all_eq_true.1 h1 t ht)
  ·simp only [List.mem_singleton] at ht
   subst ht
   exact .inl ⟨rfl,rfl⟩
end Go.Chalk
namespace Go.Proofs.YtpmalchlecnjbaaGreatDoor
open Go.RowKit Go.Chalk
attribute [local go_sem] Oper.semAt_some
theorem rfs_any (P:Nat) (L:List Tok):∀ (m n:Nat) (bad:Bool),Chalk.mu L n bad<=m->ROk P L 42 parF n bad/\ROk P L 165 parUn n bad:=by
 intro m
 induction m using Nat.strongRecOn with
 | _ m ih =>
  have hF:∀ n' b',Chalk.mu L n' b'<m->ROk P L 42 parF n' b':=fun n' b' h=>(ih _ h n' b' (Nat.le_refl _)).1
  have hUn:∀ n' b',Chalk.mu L n' b'<m->ROk P L 165 parUn n' b':=fun n' b' h=>(ih _ h n' b' (Nat.le_refl _)).2
  have hB:∀ n' b',Chalk.mu L n' b'<=m->ROk P L 190 parBrk n' b':=fun n' b' h=>rbrack_any7 P L n' b' (fun n2 b2 _ h2=>hF n2 b2 (by omega))
  have hU:∀ n' b',Chalk.mu L n' b'<=m->ROk P L 165 parUn n' b':=fun n' b' h=>run_any7 P L n' b' (fun n2 b2 _ h2=>hUn n2 b2 (by omega)) (fun n2 b2 h2=>hB n2 b2 (by omega))
  have hA:∀ n' b',Chalk.mu L n' b'<=m->ROk P L 138 parAnd n' b':=fun n' b' h=>rand_any7 P L m hU n' b' h
  have hO:∀ n' b',Chalk.mu L n' b'<=m->ROk P L 76 parOr n' b':=fun n' b' h=>ror_any7 P L m hA n' b' h
  intro n bad hm
  exact ⟨rformula_any7 P L n bad (hO n bad hm) (fun n2 b2 _ h2=>hF n2 b2 (by omega)),hU n bad hm⟩
theorem rf_any (P:Nat) (L:List Tok) (n:Nat) (bad:Bool):ROk P L 42 parF n bad:=(rfs_any P L _ n bad (Nat.le_refl _)).1
theorem rdat_new {W:World} {v:Value} {q:Option Nat} {ts:List Tok} (hO:OwnT W 51 v q ts) (hE:EndL ts) (hT:∀ t∈ts,TokOk t) (hR:RToks ts) (hL:ts.length<=16385):∃ zb zo zc:Nat,v=.slice (some ⟨zb,zo,none⟩) ts.length zc/\(q=some zb/\zb<W.heap.size)/\ts.length<=zc/\zc<=maxLen/\RdAt (W.alloc (.cells #[v,.int .i64 0,.bool false] 72)) W.heap.size ts 0 false /\
  ∀ i (h:i<ts.length),W.cell? ⟨zb,zo+i*3,none⟩=some (.int .i64 ts[i].kind)/\W.cell? ⟨zb,zo+i*3+1,none⟩=some (.string ⟨ts[i].text.toArray⟩)/\W.cell? ⟨zb,zo+i*3+2,none⟩=some (.int .i64 (ts[i].at_:Int)):=by
 have hb:Below W.heap.size W (W.alloc (.cells #[v,.int .i64 0,.bool false] 72)):=below_new _ _
 have hn:=heap_alloc_new W (.cells #[v,.int .i64 0,.bool false] 72)
 obtain ⟨z,rfl,hz⟩:=Chalk.Own.sl (G:=fun k=>q=some k/\k<W.heap.size) hO (fun _ h=>h.elim) (fun k hk=>⟨hk,Chalk.Own.row_lt hO hk⟩) (by rw [widths_map tokD_flat];simp)
 obtain ⟨h1,h2,h3,h4,h5⟩:=SlIn.flat tokD_flat hz
 obtain ⟨t,r,rfl⟩:=hE.cons
 obtain ⟨e1,e2⟩:=h1 (by simp)
 have h4':=h4.below hb (fun _=>e2.2)
 refine ⟨z.b,z.o,z.cap,?_,e2,h2,h3,⟨hE,hT,hR,by omega,by simp,z.b,z.o,z.cap,?_,e2.2,h2,h3,fun i hi=>h4'.three i hi rfl⟩,fun i hi=>h4.three i hi rfl⟩
 ·rw [<- e1];simp [SlA.val]
 ·rw [hn,<- e1];simp [SlA.val]
theorem set6_drew (W:World) (H:Nat) (c0 c1 c2 c3 c4 c5:Value) {z0 z1 z2 z3 z4 z5:Value} {T:TypeId} {fz:Nat×Nat} (h:W.heap[H]?=some (.cells #[z0,z1,z2,z3,z4,z5] T fz)) :
  ∃ w6,w6=((((((W.setCell ⟨H,0,none⟩ c0).setCell ⟨H,1,none⟩ c1).setCell ⟨H,2,none⟩ c2).setCell ⟨H,3,none⟩ c3).setCell ⟨H,4,none⟩ c4).setCell ⟨H,5,none⟩ c5).drew/\Chalk.Mod (fun k=>k=H) W w6/\w6.heap[H]?=some (.cells #[c0,c1,c2,c3,c4,c5] T fz):=by
 have h1:=st6_mod W H c0 c1 c2 c3 c4 c5
 have h2:=st6_heap (c0:=c0) (c1:=c1) (c2:=c2) (c3:=c3) (c4:=c4) (c5:=c5) h
 unfold st6 at h1 h2
 generalize (((((W.setCell ⟨H,0,none⟩ c0).setCell ⟨H,1,none⟩ c1).setCell ⟨H,2,none⟩ c2).setCell ⟨H,3,none⟩ c3).setCell ⟨H,4,none⟩ c4).setCell ⟨H,5,none⟩ c5=w5 at h1 h2 ⊢
 exact ⟨w5.drew,rfl,h1.trans (Chalk.Mod.of_below (S:=fun k=>k=H) (Below.refl _ _).drew) (fun _ _ h=>h),h2⟩
theorem formP_bad {bs:Bs} {w w':World} {n:Nat} {c:Int} (hb:Below w.heap.size w w') (hs:synForm bs=(none,n,c)):FormP bs w (.returned (.tuple #[.agg #[.int .i64 0,.string ⟨#[]⟩,.int .i64 0,.slice none 0 0,.slice none 0 0,.slice none 0 0],.int .i64 (n:Int),.int .i64 c])) w':=⟨hb,.inr ⟨n,c,hs,rfl⟩⟩
theorem rForm7_any (bs:Bs) (a:Option Addr) (b o cap:Nat) (w:World) (hsb:SB w w.heap.size bs a b o) (hcap:bs.length<=cap) (hmax:bs.length<=281474976710656):Calls Tryz.prog 15 #[.slice a bs.length cap] w (FormP bs w):=by
 obtain ⟨RB,hRB⟩:∃ RB,RB=w.heap.size:=⟨_,rfl⟩
 obtain ⟨w0,hw0⟩:∃ w0,w0=w.alloc (.cells #[.int .i64 0,.string ⟨#[]⟩,.int .i64 0,.slice none 0 0,.slice none 0 0,.slice none 0 0] 28):=⟨_,rfl⟩
 have hb0:Below w.heap.size w w0:=by rw [hw0];exact below_new _ _
 have hk0:w0.heap[RB]?=some (.cells #[.int .i64 0,.string ⟨#[]⟩,.int .i64 0,.slice none 0 0,.slice none 0 0,.slice none 0 0] 28 (0,0)):=by rw [hw0,hRB];exact heap_alloc_new _ _
 have HT:=Lh (tokensR_any bs a b o cap w0 (hsb.below hb0 hb0.size) hcap hmax)
 have hs0:w0.heap.size=RB+1:=by rw [hw0,hRB];simp
 have H0:=Lh (aI hb0 (aI hs0 hk0))
 have HRB:=Lh hRB
 have HW0:=Lh hw0
 have HBW:=Lh (fun (W:World) (hm:Chalk.Mod (fun k=>w.heap.size<=k) w0 W)=>(hb0.trans (hm.below hb0.size (fun _ h=>h)):Below w.heap.size w W))
 clear hsb hcap hb0 hk0 hs0 hRB hw0
 go_enter Tryz.func15,Tryz.ntmps15
 go_wp2_with fail
 rw [<- HW0.out,<- HRB.out]
 refine HT.out.mono ?_
 rintro e w1 ⟨v,q,rfl,hO,hq,hb1⟩
 have hk1:=(hb1.block _ (gS H0.out.2.2).1).trans H0.out.2.2
 have HM1:Hid (Chalk.Mod (fun k=>w.heap.size<=k) w0 w1):=Lh (Chalk.Mod.of_below hb1)
 have HO:=Lh hO
 have HQ:=Lh hq
 have HK1:=Lh hk1
 have HS1:=Lh hb1.size
 obtain ⟨n0,hn0⟩:∃ n0,n0=(tokensF bs).2.1:=⟨_,rfl⟩
 obtain ⟨c0,hc0⟩:∃ c0,c0=(tokensF bs).2.2:=⟨_,rfl⟩
 rw [<- hn0,<- hc0]
 have HN:=Lh (aI hn0 hc0)
 clear hn0 hc0 hO hq hb1 hk1
 by_cases hc:c0=0
 rotate_left
 ·have hc2:(c0==0)=false:=by simpa using hc
  have HS:=Lh (show synForm bs=(none,n0,c0) from by rw [synForm_eq,if_pos (by rw [<- HN.out.2];exact hc),<- HN.out.1,<- HN.out.2])
  have x0:w1.cell? ⟨RB,0,none⟩=some (.int .i64 0):=cH HK1.out rfl
  have x1:w1.cell? ⟨RB,1,none⟩=some (.string ⟨#[]⟩):=cH HK1.out rfl
  have x2:w1.cell? ⟨RB,2,none⟩=some (.int .i64 0):=cH HK1.out rfl
  have x3:w1.cell? ⟨RB,3,none⟩=some (.slice none 0 0):=cH HK1.out rfl
  have x4:w1.cell? ⟨RB,4,none⟩=some (.slice none 0 0):=cH HK1.out rfl
  have x5:w1.cell? ⟨RB,5,none⟩=some (.slice none 0 0):=cH HK1.out rfl
  have fz0:w1.frozen? ⟨RB,0,none⟩=false:=fH HK1.out
  have fz1:w1.frozen? ⟨RB,1,none⟩=false:=fH HK1.out
  have fz2:w1.frozen? ⟨RB,2,none⟩=false:=fH HK1.out
  have fz3:w1.frozen? ⟨RB,3,none⟩=false:=fH HK1.out
  have fz4:w1.frozen? ⟨RB,4,none⟩=false:=fH HK1.out
  have fz5:w1.frozen? ⟨RB,5,none⟩=false:=fH HK1.out
  have hrl:=(gS HK1.out).1
  go_wp2_with fail
  refine bodyPost_ret (v:=.tuple #[.agg #[.int .i64 0,.string ⟨#[]⟩,.int .i64 0,.slice none 0 0,.slice none 0 0,.slice none 0 0],.int .i64 (n0:Int),.int .i64 c0]) (by simp [results,Tryz.results15,go_sem, *]) rfl ?_
  exact formP_bad (HBW.out _ (HM1.out.trans ((st6_mod w1 RB (.int .i64 0) (.string ⟨#[]⟩) (.int .i64 0) (.slice none 0 0) (.slice none 0 0) (.slice none 0 0)).mono (fun k h=>(show w.heap.size<=k by have:=HRB.out;omega))) (fun _ _ h=>h))) HS.out
 subst hc
 obtain ⟨k1,k2,k3,k4⟩:=toks_ok HN.out.2.symm
 obtain ⟨zb,zo,zc,rfl,⟨hzq,hzb⟩,hzc1,hzc2,hrd,htc⟩:=rdat_new HO.out k1 k2 (rtoks_ok HN.out.2.symm) k3
 have HNZ:Hid (¬ zb=RB):=Lh (by have:=HQ.out zb hzq;have:=H0.out.2.1;omega)
 have HSF:=Lh (synForm_eq bs)
 have HFIT:=Lh (fun (f:Frm) (r:List Tok) (h:parF (tokensF bs).1=.ok f r)=>parF_fit h (toks_short HN.out.2.symm) k3)
 obtain ⟨L,hL⟩:∃ L,L=(tokensF bs).1:=⟨_,rfl⟩
 rw [if_neg (show ¬ (tokensF bs).2.2 ≠ 0 by rw [<- HN.out.2];decide)] at HSF
 rw [<- hL] at hrd htc hzc1 HSF HFIT k3 ⊢
 obtain ⟨PP,hPP⟩:∃ PP,PP=w1.heap.size:=⟨_,rfl⟩
 obtain ⟨len,hlen⟩:∃ len,len=L.length:=⟨_,rfl⟩
 rw [<- hlen] at hrd hzc1 ⊢
 obtain ⟨w2,hw2⟩:∃ w2,w2=w1.alloc (.cells #[.slice (some ⟨zb,zo,none⟩) len zc,.int .i64 0,.bool false] 72):=⟨_,rfl⟩
 rw [<- hw2,<- hPP] at hrd
 have hb2:Below w1.heap.size w1 w2:=by rw [hw2];exact below_new _ _
 have hk2:=(hb2.block _ (gS HK1.out).1).trans HK1.out
 have hzP:zb<PP:=by rw [hPP];exact hzb
 have hRP:RB<PP:=by rw [hPP];exact (gS HK1.out).1
 have HTC:Hid (∀ i (h:i<L.length),w2.cell? ⟨zb,zo+i*3,none⟩=some (.int .i64 L[i].kind)/\w2.cell? ⟨zb,zo+i*3+2,none⟩=some (.int .i64 (L[i].at_:Int))):=Lh (fun i hi=>⟨(hb2.cell (p:=⟨zb,zo+i*3,none⟩) hzb).trans (htc i hi).1,(hb2.cell (p:=⟨zb,zo+i*3+2,none⟩) hzb).trans (htc i hi).2.2⟩)
 have H2:=Lh (aI hrd (aI hk2 (aI (HM1.out.trans (Chalk.Mod.of_below (S:=fun k=>w.heap.size<=k) hb2) (fun _ _ h=>h)) (aI hzP hRP))))
 have HW2:=Lh (aI hw2 hPP)
 have HLEN:=Lh (aI hlen (show len<=16385 by omega))
 have hlen2:len<=16385:=by omega
 clear hzb hzq hrd htc hb2 hk2 hw2 hPP hlen hL k1 k2 k3 k4
 go_wp2_with fail
 rw [<- HW2.out.1,<- HW2.out.2]
 refine (rf_any PP L 0 false w2 H2.out.1).mono ?_
 rintro e w3 ⟨f,x,n1,b1,rfl,hx,ho,hr,hm⟩
 have R1:=Lh ho
 have hk3:=heap_kept H2.out.2.1 hm (by have:=H2.out.2.2.2.2;omega)
 have H3:=Lh (aI hr (aI hk3 (aI (H2.out.2.2.1.trans (hm.mono (fun k h=>(show w.heap.size<=k by have:=H2.out.2.2.2.2;have:=HRB.out;omega))) (fun _ _ h=>h)) (aI hx (gS H2.out.1.open_.choose_spec.choose_spec.choose_spec).1))))
 have HTC3:Hid (∀ i (h:i<L.length),w3.cell? ⟨zb,zo+i*3,none⟩=some (.int .i64 L[i].kind)/\w3.cell? ⟨zb,zo+i*3+2,none⟩=some (.int .i64 (L[i].at_:Int))):=Lh (fun i hi=>by
  have hz:zb<w2.heap.size:=World.block_lt_of_cell? w2 _ (HTC.out i hi).1
  have hne:¬ zb=PP:=by have:=H2.out.2.2.2.1;omega
  exact ⟨(World.cell?_of_block (a:=⟨zb,zo+i*3,none⟩) (hm.block zb hz hne)).trans (HTC.out i hi).1,(World.cell?_of_block (a:=⟨zb,zo+i*3+2,none⟩) (hm.block zb hz hne)).trans (HTC.out i hi).2⟩)
 clear ho hr hm hk3 hx HTC
 obtain ⟨B9,hB9⟩:∃ B9,B9=w3.heap.size:=⟨_,rfl⟩
 obtain ⟨w4,hw4⟩:∃ w4,w4=w3.alloc (.cells #[.int .i64 f.kind,.string ⟨f.name.toArray⟩,.int .i64 f.n,.slice x.t.a f.terms.length x.t.cap,.slice x.b.a f.binds.length x.b.cap,.slice x.l.a f.l.length x.l.cap] 28):=⟨_,rfl⟩
 have hb4:Below w3.heap.size w3 w4:=by rw [hw4];exact below_new _ _
 have hx4:w4.heap[B9]?=some (.cells #[.int .i64 f.kind,.string ⟨f.name.toArray⟩,.int .i64 f.n,.slice x.t.a f.terms.length x.t.cap,.slice x.b.a f.binds.length x.b.cap,.slice x.l.a f.l.length x.l.cap] 28 (0,0)):=by rw [hw4,hB9];exact heap_alloc_new _ _
 have hr4:=H3.out.1.below hb4
 have hk4:=(hb4.block _ (gS H3.out.2.1).1).trans H3.out.2.1
 have hpl:n1<L.length:=hr4.place
 obtain ⟨tc0,tc2⟩:=HTC3.out n1 hpl
 have hzl:zb<w3.heap.size:=World.block_lt_of_cell? w3 _ tc0
 have hPl3:PP<w3.heap.size:=H3.out.1.lt
 obtain ⟨pb,po,pc,hpx⟩:=H3.out.1.open_
 have cp1:w3.cell? ⟨PP,1,none⟩=some (.int .i64 (n1:Int)):=cH hpx rfl
 have cp2:w3.cell? ⟨PP,2,none⟩=some (.bool b1):=cH hpx rfl
 have hnl:n1<len:=by have:=HLEN.out.1;omega
 obtain ⟨t,ht⟩:∃ t,t=L[n1]:=⟨_,rfl⟩
 rw [<- ht] at tc0 tc2
 have HD:Hid (L.drop n1=t :: L.drop (n1+1)):=Lh (by rw [ht];exact List.drop_eq_getElem_cons hpl)
 have H4:=Lh (aI hr4 (aI hk4 (aI (H3.out.2.2.1.trans (Chalk.Mod.of_below (S:=fun k=>w.heap.size<=k) hb4) (fun _ _ h=>h)) (aI hx4 (aI (H3.out.2.2.2.1.modB (Chalk.Mod.of_below (S:=fun _=>False) hb4) (fun _ h=>h.elim)) hb4)))))
 have HW4:=Lh (aI hw4 hB9)
 have HC:Hid (∀ W,Below w4.heap.size w4 W->W.cell? ⟨PP,1,none⟩=some (.int .i64 (n1:Int))/\W.cell? ⟨zb,zo+n1*3+2,none⟩=some (.int .i64 (t.at_:Int))):=Lh (fun W hW=>by
  have hb34:Below w3.heap.size w3 W:=hb4.trans (hW.mono hb4.size)
  exact ⟨(hb34.cell (p:=⟨PP,1,none⟩) hPl3).trans cp1,(hb34.cell (p:=⟨zb,zo+n1*3+2,none⟩) hzl).trans tc2⟩)
 have HBAD:Hid ((b1=true∨t.kind ≠ 4)->synForm bs=(none,t.at_,70)):=Lh (fun h=>by
  rw [HSF.out]
  cases b1 with
  | true =>
   have h1:=R1.out.fails
   rw [List.drop_zero] at h1
   rw [h1,HD.out];rfl
  | false =>
   have h1:=R1.out.good.2
   rw [List.drop_zero] at h1
   have h2:t.kind ≠ 4:=by rcases h with h | h;cases h;exact h
   have he:isEnd (L.drop n1)=false:=by rw [HD.out];simpa [isEnd] using h2
   rw [h1]
   show (if isEnd (L.drop n1)=false then ((none:Option Frm),atT (L.drop n1),(70:Int)) else _)=_
   rw [if_pos he,HD.out];rfl)
 have HGOOD:Hid (b1=false->t.kind=4->FrmFit f/\synForm bs=if frmCheck f ≠ 0 then (none,0,frmCheck f) else (some f,0,0)):=Lh (fun h h2=>by
  subst h
  have h1:=R1.out.good.2
  rw [List.drop_zero] at h1
  refine ⟨HFIT.out f _ h1,?_⟩
  have he:isEnd (L.drop n1)=true:=by rw [HD.out];simpa [isEnd] using h2
  rw [HSF.out,h1]
  simp only [he,Bool.true_eq_false,if_false])
 clear hb4 hx4 hr4 hk4 hw4 hB9 hpx ht hpl R1
 obtain ⟨tk,tx,ta⟩:=t
 simp only at tc0 tc2 HBAD HGOOD HC
 obtain ⟨w6,hw6,hst6,hk6⟩:=set6_drew w4 RB (.int .i64 0) (.string ⟨#[]⟩) (.int .i64 0) (.slice none 0 0) (.slice none 0 0) (.slice none 0 0) H4.out.2.1
 have HSK:Hid (w6.cell? ⟨PP,1,none⟩=some (.int .i64 (n1:Int))/\w6.cell? ⟨zb,zo+n1*3+2,none⟩=some (.int .i64 (ta:Int))):=Lh (by
  obtain ⟨d1,d2⟩:=HC.out w4 (Below.refl _ _)
  have e1:=H2.out.2.2.2.2
  have e2:¬ zb=RB:=by have:=HNZ.out;omega
  exact ⟨(World.cell?_of_block (a:=⟨PP,1,none⟩) (hst6.block PP (World.block_lt_of_cell? w4 _ d1) (by omega))).trans d1,(World.cell?_of_block (a:=⟨zb,zo+n1*3+2,none⟩) (hst6.block zb (World.block_lt_of_cell? w4 _ d2) e2)).trans d2⟩)
 have H6:=Lh (aI hk6 (H4.out.2.2.1.trans (hst6.mono (fun k h=>(show w.heap.size<=k by have:=HRB.out;omega))) (fun _ _ h=>h)))
 have HW6:=Lh hw6
 clear hw6 hst6 hk6
 have x0:w4.cell? ⟨RB,0,none⟩=some (.int .i64 0):=cH H4.out.2.1 rfl
 have x1:w4.cell? ⟨RB,1,none⟩=some (.string ⟨#[]⟩):=cH H4.out.2.1 rfl
 have x2:w4.cell? ⟨RB,2,none⟩=some (.int .i64 0):=cH H4.out.2.1 rfl
 have x3:w4.cell? ⟨RB,3,none⟩=some (.slice none 0 0):=cH H4.out.2.1 rfl
 have x4:w4.cell? ⟨RB,4,none⟩=some (.slice none 0 0):=cH H4.out.2.1 rfl
 have x5:w4.cell? ⟨RB,5,none⟩=some (.slice none 0 0):=cH H4.out.2.1 rfl
 have fz0:w4.frozen? ⟨RB,0,none⟩=false:=fH H4.out.2.1
 have fz1:w4.frozen? ⟨RB,1,none⟩=false:=fH H4.out.2.1
 have fz2:w4.frozen? ⟨RB,2,none⟩=false:=fH H4.out.2.1
 have fz3:w4.frozen? ⟨RB,3,none⟩=false:=fH H4.out.2.1
 have fz4:w4.frozen? ⟨RB,4,none⟩=false:=fH H4.out.2.1
 have fz5:w4.frozen? ⟨RB,5,none⟩=false:=fH H4.out.2.1
 have hrl4:=(gS H4.out.2.1).1
 by_cases hbd:b1=true∨tk ≠ 4
 ·have HS:=Lh (HBAD.out hbd)
  clear HBAD HGOOD
  have go:(b1=true)∨(b1=false/\(tk != 4)=true):=by
   cases b1 with
   | true=>exact .inl rfl
   | false=>exact .inr ⟨rfl,by rcases hbd with h | h;cases h;simpa using h⟩
  clear hbd
  rcases go with hb1 | ⟨hb1,hk4⟩
  all_goals
   subst hb1
   go_wp2_with fail
   rw [<- HW4.out.1,<- HW4.out.2]
   refine wp_region_U 11 (S:=fun W=>W.cell? ⟨PP,1,none⟩=some (.int .i64 (n1:Int))/\W.cell? ⟨zb,zo+n1*3+2,none⟩=some (.int .i64 (ta:Int))) (by kernel_rfl) (HC.out w4 (Below.refl _ _)) (fun hHeld=>?_)
   refine take_U (i:=0) (v:=?_) rfl (by kernel_rfl) (by kernel_rfl) (by kernel_rfl) (by kernel_rfl) (fun _ _ _ h=>h) (by rfl) ?_ hHeld ?_
   rotate_left
   ·intro w hSw;obtain ⟨d1,d2⟩:=hSw;go_simp;all_goals (with_reducible rfl)
   try simp only [Act.put,ub1,ub2,ub3]
   refine take_U (i:=1) (v:=?_) rfl (by kernel_rfl) (by kernel_rfl) (by kernel_rfl) (by kernel_rfl) (fun _ _ _ h=>h) (by rfl) ?_ hHeld ?_
   rotate_left
   ·intro w hSw;obtain ⟨d1,d2⟩:=hSw;go_simp;all_goals (with_reducible rfl)
   try simp only [Act.put,ub1,ub2,ub3]
   refine take_U (i:=2) (v:=?_) rfl (by kernel_rfl) (by kernel_rfl) (by kernel_rfl) (by kernel_rfl) (fun _ _ _ h=>h) (by rfl) ?_ hHeld ?_
   rotate_left
   ·intro w hSw;obtain ⟨d1,d2⟩:=hSw;go_simp;all_goals (with_reducible rfl)
   try simp only [Act.put,ub1,ub2,ub3]
   refine take_U (i:=3) (v:=?_) rfl (by kernel_rfl) (by kernel_rfl) (by kernel_rfl) (by kernel_rfl) (fun _ _ _ h=>h) (by rfl) ?_ hHeld ?_
   rotate_left
   ·intro w hSw;obtain ⟨d1,d2⟩:=hSw;go_simp;all_goals (with_reducible rfl)
   try simp only [Act.put,ub1,ub2,ub3]
   refine take_U (i:=4) (v:=?_) rfl (by kernel_rfl) (by kernel_rfl) (by kernel_rfl) (by kernel_rfl) (fun _ _ _ h=>h) (by rfl) ?_ hHeld ?_
   rotate_left
   ·intro w hSw;obtain ⟨d1,d2⟩:=hSw;go_simp;all_goals (with_reducible rfl)
   try simp only [Act.put,ub1,ub2,ub3]
   refine take_U (i:=5) (v:=?_) rfl (by kernel_rfl) (by kernel_rfl) (by kernel_rfl) (by kernel_rfl) (fun _ _ _ h=>h) (by rfl) ?_ hHeld ?_
   rotate_left
   ·intro w hSw;obtain ⟨d1,d2⟩:=hSw;go_simp;all_goals (with_reducible rfl)
   try simp only [Act.put,ub1,ub2,ub3]
   refine take_U (i:=6) (v:=?_) rfl (by kernel_rfl) (by kernel_rfl) (by kernel_rfl) (by kernel_rfl) (fun _ _ _ h=>h) (by rfl) ?_ hHeld ?_
   rotate_left
   ·intro w hSw;obtain ⟨d1,d2⟩:=hSw;go_simp;all_goals (with_reducible rfl)
   try simp only [Act.put,ub1,ub2,ub3]
   refine take_U (i:=7) (v:=?_) rfl (by kernel_rfl) (by kernel_rfl) (by kernel_rfl) (by kernel_rfl) (fun _ _ _ h=>h) (by rfl) ?_ hHeld ?_
   rotate_left
   ·intro w hSw;obtain ⟨d1,d2⟩:=hSw;go_simp;all_goals (with_reducible rfl)
   try simp only [Act.put,ub1,ub2,ub3]
   refine take_U (i:=8) (v:=?_) rfl (by kernel_rfl) (by kernel_rfl) (by kernel_rfl) (by kernel_rfl) (fun _ _ _ h=>h) (by rfl) ?_ hHeld ?_
   rotate_left
   ·intro w hSw;obtain ⟨d1,d2⟩:=hSw;go_simp;all_goals (with_reducible rfl)
   try simp only [Act.put,ub1,ub2,ub3]
   refine ready_U (rs:=[9]) (by kernel_rfl) (by simp) ?_
   refine cons_U rfl (fun K hK=>?_) nil_U
   go_simp
   simp only [<- HW6.out]
   refine hK.out _ _ ?_ (fun hHeld2=>?_)
   ·exact HSK.out
   clear hK K hHeld
   have hHeld:=hHeld2
   clear hHeld2
   try simp only [Act.put,ub1,ub2,ub3]
   refine tkU (i:=10) rfl hHeld ?_
   try simp only [Act.put,ub1,ub2,ub3]
   refine ready_U (rs:=[11]) (by kernel_rfl) (by simp) ?_
   refine cons_V rfl (by kernel_rfl) (fun K hK=>?_) nil_U
   go_simp
   refine hK.out _ _ ?_
   clear hK K
   try simp only [Act.put,ub1,ub2,ub3]
   refine done_U (by kernel_rfl) ?_ _
   dsimp only [Exit.then]
   refine (‹∀ (a:Act) (w_1:World),Code.wp Tryz.prog Code.ret _ a w_1->_›:_) _ _ ?_
   refine wp_ret ?_
   have v0:w6.cell? ⟨RB,0,none⟩=some (.int .i64 0):=cH H6.out.1 rfl
   have v1:w6.cell? ⟨RB,1,none⟩=some (.string ⟨#[]⟩):=cH H6.out.1 rfl
   have v2:w6.cell? ⟨RB,2,none⟩=some (.int .i64 0):=cH H6.out.1 rfl
   have v3:w6.cell? ⟨RB,3,none⟩=some (.slice none 0 0):=cH H6.out.1 rfl
   have v4:w6.cell? ⟨RB,4,none⟩=some (.slice none 0 0):=cH H6.out.1 rfl
   have v5:w6.cell? ⟨RB,5,none⟩=some (.slice none 0 0):=cH H6.out.1 rfl
   have vz0:w6.frozen? ⟨RB,0,none⟩=false:=fH H6.out.1
   have vz1:w6.frozen? ⟨RB,1,none⟩=false:=fH H6.out.1
   have vz2:w6.frozen? ⟨RB,2,none⟩=false:=fH H6.out.1
   have vz3:w6.frozen? ⟨RB,3,none⟩=false:=fH H6.out.1
   have vz4:w6.frozen? ⟨RB,4,none⟩=false:=fH H6.out.1
   have vz5:w6.frozen? ⟨RB,5,none⟩=false:=fH H6.out.1
   refine bodyPost_ret (v:=.tuple #[.agg #[.int .i64 0,.string ⟨#[]⟩,.int .i64 0,.slice none 0 0,.slice none 0 0,.slice none 0 0],.int .i64 (ta:Int),.int .i64 70]) (by simp [results,Tryz.results15,go_sem, *]) rfl ?_
   exact formP_bad (HBW.out w6 H6.out.2) HS.out
 have hb1:b1=false:=by cases b1 with | true=>exact absurd (.inl rfl) hbd | false=>rfl
 have hk4:tk=4:=Decidable.byContradiction (fun h=>hbd (.inr h))
 subst hb1
 subst hk4
 obtain ⟨g1,g2⟩:=HGOOD.out rfl rfl
 have HCK:=r6check_any f x w4 g1.size g1.nodes (H4.out.2.2.2.2.1.mono (fun k hk=>hk.2))
 simp only [ndV,FrmA.cells,SlA.val] at HCK
 have HCK:=Lh HCK
 have HS:=Lh g2
 clear HBAD HGOOD g1 g2 hbd
 go_wp2_with fail
 rw [<- HW4.out.1,<- HW4.out.2]
 refine HCK.out.mono ?_
 rintro e w5 ⟨rfl,hb5⟩
 have hk5:=(hb5.block _ (gS H4.out.2.1).1).trans H4.out.2.1
 have hx5:=(hb5.block _ (gS H4.out.2.2.2.1).1).trans H4.out.2.2.2.1
 have HM5:Hid (Chalk.Mod (fun k=>w.heap.size<=k) w0 w5):=Lh (H4.out.2.2.1.trans (Chalk.Mod.of_below (S:=fun k=>w.heap.size<=k) hb5) (fun _ _ h=>h))
 have HX5:=Lh (H4.out.2.2.2.2.1.modB (Chalk.Mod.of_below (S:=fun _=>False) hb5) (fun _ h=>h.elim))
 have u0:w5.cell? ⟨RB,0,none⟩=some (.int .i64 0):=cH hk5 rfl
 have u1:w5.cell? ⟨RB,1,none⟩=some (.string ⟨#[]⟩):=cH hk5 rfl
 have u2:w5.cell? ⟨RB,2,none⟩=some (.int .i64 0):=cH hk5 rfl
 have u3:w5.cell? ⟨RB,3,none⟩=some (.slice none 0 0):=cH hk5 rfl
 have u4:w5.cell? ⟨RB,4,none⟩=some (.slice none 0 0):=cH hk5 rfl
 have u5:w5.cell? ⟨RB,5,none⟩=some (.slice none 0 0):=cH hk5 rfl
 have uz0:w5.frozen? ⟨RB,0,none⟩=false:=fH hk5
 have uz1:w5.frozen? ⟨RB,1,none⟩=false:=fH hk5
 have uz2:w5.frozen? ⟨RB,2,none⟩=false:=fH hk5
 have uz3:w5.frozen? ⟨RB,3,none⟩=false:=fH hk5
 have uz4:w5.frozen? ⟨RB,4,none⟩=false:=fH hk5
 have uz5:w5.frozen? ⟨RB,5,none⟩=false:=fH hk5
 have y0:w5.cell? ⟨B9,0,none⟩=some (.int .i64 f.kind):=cH hx5 rfl
 have y1:w5.cell? ⟨B9,1,none⟩=some (.string ⟨f.name.toArray⟩):=cH hx5 rfl
 have y2:w5.cell? ⟨B9,2,none⟩=some (.int .i64 f.n):=cH hx5 rfl
 have y3:w5.cell? ⟨B9,3,none⟩=some (.slice x.t.a f.terms.length x.t.cap):=cH hx5 rfl
 have y4:w5.cell? ⟨B9,4,none⟩=some (.slice x.b.a f.binds.length x.b.cap):=cH hx5 rfl
 have y5:w5.cell? ⟨B9,5,none⟩=some (.slice x.l.a f.l.length x.l.cap):=cH hx5 rfl
 have hrl5:=(gS hk5).1
 clear hb5 hk5 hx5 tc0 tc2 hzl hPl3 cp1 cp2 hrl4 x0 x1 x2 x3 x4 x5 fz0 fz1 fz2 fz3 fz4 fz5
 obtain ⟨fk,hfk⟩:∃ fk,fk=frmCheck f:=⟨_,rfl⟩
 rw [<- hfk] at HS ⊢
 clear hfk
 by_cases hk:fk=0
 ·have HS2:=Lh (show synForm bs=(some f,0,0) from by rw [HS.out,if_neg (by rw [hk];decide)])
  subst hk
  go_wp2_with fail
  refine bodyPost_ret (v:=.tuple #[.agg #[.int .i64 f.kind,.string ⟨f.name.toArray⟩,.int .i64 f.n,.slice x.t.a f.terms.length x.t.cap,.slice x.b.a f.binds.length x.b.cap,.slice x.l.a f.l.length x.l.cap],.int .i64 0,.int .i64 0]) (by simp [results,Tryz.results15,go_sem, *]) rfl ?_
  have hst:=st6_mod w5 RB (.int .i64 f.kind) (.string ⟨f.name.toArray⟩) (.int .i64 f.n) (.slice x.t.a f.terms.length x.t.cap) (.slice x.b.a f.binds.length x.b.cap) (.slice x.l.a f.l.length x.l.cap)
  refine ⟨HBW.out _ (HM5.out.trans (hst.mono (fun k h=>(show w.heap.size<=k by have:=HRB.out;omega))) (fun _ _ h=>h)),.inl ⟨f,x,HS2.out,rfl,?_⟩⟩
  exact (HX5.out.modB hst (fun k hk=>by have:=H2.out.2.2.2.2;have:=H2.out.1.lt;omega)).lower (by have:=H2.out.2.2.2.2;have:=H2.out.1.lt;have:=HRB.out;omega)
 ·have hk2:(fk==0)=false:=by simpa using hk
  have HS2:=Lh (show synForm bs=(none,0,fk) from by rw [HS.out,if_pos hk])
  go_wp2_with fail
  refine bodyPost_ret (v:=.tuple #[.agg #[.int .i64 0,.string ⟨#[]⟩,.int .i64 0,.slice none 0 0,.slice none 0 0,.slice none 0 0],.int .i64 0,.int .i64 fk]) (by simp [results,Tryz.results15,go_sem, *]) rfl ?_
  exact formP_bad (n:=0) (HBW.out _ (HM5.out.trans ((st6_mod w5 RB (.int .i64 0) (.string ⟨#[]⟩) (.int .i64 0) (.slice none 0 0) (.slice none 0 0) (.slice none 0 0)).mono (fun k h=>(show w.heap.size<=k by have:=HRB.out;omega))) (fun _ _ h=>h))) HS2.out
end Go.Proofs.YtpmalchlecnjbaaGreatDoor
