/- Parts of the proof. -/
import Derived.Test.YtncnnbmeacpboaaGreatDoorQ31
import Derived.Test.YtncnnbmeacpboaaGreatDoorQ30
set_option maxHeartbeats 2000000
set_option maxRecDepth 100000
set_option linter.unusedVariables false
set_option linter.unusedSimpArgs false
namespace Go.Proofs.YtncnnbmeacpboaaGreatDoor
open Go.RowKit Go.aa
attribute [local go_sem] Oper.semAt_some
variable {w W W' W0:World} {l:List ae} {b cap j B C lo sz H:Nat} {cs:List Value} {T e t:TypeId} {fz:Nat×Nat} {F:Nat->Prop} {xs:List D} {f:ae} {kind n:Int} {name:Bs} {a binds bs:List aD} {want:Option (List Int)} {out:List Int} {terms:List bH} {met:List Bs} {r:List bq} {x:bq} {s:aF} {y:aC}
def jo(f:ae):Prop:=f.terms.length<=2000000/\f.binds.length<=2000000/\f.l.length<=2000000/\f.name.length<=4000000/\(∀t∈f.terms,t.name.length<=4000000)/\(∀b∈f.binds,b.name.length<=4000000)
structure gZ (f:ae):Prop where
 size:f.size<=2000000
 nodes:∀g∈aJ f,jo g
theorem iY.ui{fn:Func}{R:Ending->World->Prop}{ds:List Nat}{c:Int}{tm:Array Value}(h:iY w W ds c)(hres:∀W',W'.cell? ⟨w.heap.size+1,0,none⟩=some (.int .i64 c)->(results fn tm).run Tryz.prog W'=.ok (.int .i64 c) W')(hR:∀W',Below w.heap.size w W'->R (.returned (.int .i64 c)) W'):
  LeavesInM Fence.wide 0 Tryz.prog fn tm R (ds.map aa.mark) .returning W:=by
 refine fI (v:=.int .i64 c) ds W h.nodup (fun d hd=>(h.marks d hd).1) (fun W' hm'=>?_);have hx':W'.heap[w.heap.size+1]?=some (.cells #[.int .i64 c] 39 (0,0)):=av h.res hm' (fun hk=>by have:=(h.marks _ hk).2;omega);exact⟨hres W' (cH hx' rfl),hR _ (h.below.trans (hm'.below h.below.size (fun k hk=>by have:=(h.marks _ hk).2;omega)))⟩
theorem xg{i:Nat}(hi:i<l.length):(l.take (i+1)).all aH=((l.take i).all aH&&aH l[i]):=by
 rw[List.take_succ_eq_append_getElem hi,List.all_append];simp
theorem mi(f:ae)(x:aC)(w:World)(hx:aB w (·<w.heap.size) f x)(hf:gZ f)(hg:GG w):
  Calls Tryz.prog 74 #[gB (f,x)] w fun e w'=>e=.returned (.int .i64 (aM f))/\Below w.heap.size w w':=by
 obtain⟨ns,h1,h2,h3⟩:=xX f.size f x w _ (Nat.le_refl _) hf.size hx;have hln:ns.length=(aJ f).length:=by rw[<-h1,List.length_map]
 have hit:=fun W0 tb hag htb=>AB f x ns w _ h3 W0 tb hag htb;have HIT:=Lh hit;have Nk:=Lh (fun W=>Fw f x W);have Vb:=Lh (fun(i:Nat) (hi:i<ns.length) (W:World) (hb:Below w.heap.size w W)=>(by
  have hi':i<(aJ f).length:=by omega
  have e:(jV ns i).1=(aJ f)[i]:=by
   unfold jV;rw[List.getElem?_eq_getElem hi];simp only[<-h1,Option.getD_some,List.getElem_map]
  have hin:aB w (·<w.heap.size) (jV ns i).1 (jV ns i).2:=by
   unfold jV;rw[List.getElem?_eq_getElem hi];exact h2 _ (List.getElem_mem hi)
  refine⟨hi',e,Dw (jV ns i).1 (jV ns i).2 W (hin.later hb hb.size) (hg.below hb) ?_⟩;rw[e];exact hf.nodes _ (List.getElem_mem hi'):∃hi':i<(aJ f).length,(jV ns i).1=(aJ f)[i]/\Calls Tryz.prog 117 #[gB (jV ns i)] W fun e w'=>e=.returned (.bool (aH (jV ns i).1))/\Below W.heap.size W w'))
 have sF:=Lh (fun(W:World) (hb:Below w.heap.size w W)=>GN f x W hf.size (hx.later hb hb.size));have Rn:=Lh (fun(W:World) (hb:Below w.heap.size w W)=>GD f.size f x W (Nat.le_refl _) hf.size (hx.later hb hb.size));have hcs:aM f=if(aJ f).all aH=false then 1 else if 256<f.size∨24<f.depth then 2 else 0:=rfl
 have Fg:=Lh hcs;have hfs:=hf.size;have hfd:=ae.kT f;clear hit h1 h2 h3 hx hf hg hcs;obtain⟨kind,name,n,terms,binds,fl⟩:=f;generalize Zu:aJ (.mk kind name n terms binds fl)=RN at*;generalize ae.size (.mk kind name n terms binds fl)=sz at*;generalize ae.depth (.mk kind name n terms binds fl)=dp at*;generalize aM (.mk kind name n terms binds fl)=fc at*;clear Zu;simp only[gB,aC.cells,aK.val,ae.kind,ae.name,ae.n,ae.terms,ae.binds,ae.l] at HIT Nk sF Rn ⊢;refine(callsIn_wide (n:=0)).1 (callsIn_of_wp_marks Tryz.func74 rfl trivial ?_);simp only[Tryz.ntmps74,List.size_toArray,List.length_cons,List.length_nil,Nat.reduceAdd,Nat.reduceSub,Array.replicate_succ,Array.replicate_zero,List.push_toArray,List.append_toArray,List.nil_append,List.cons_append]
 gi_wp2_with fail
 refine⟨trivial,rfl,(callsIn_wide.2 (Nk.out _)).mono ?_⟩;rintro e w' ⟨rfl,rfl⟩
 gi_wp2_with fail
 generalize hW3:(((w.alloc _).alloc _).alloc _)=W3;have hsz:W3.heap.size=w.heap.size+3:=by rw[<-hW3];simp
 have hb3:Below w.heap.size w W3:=by rw[<-hW3];exact(((Below.refl _ _).alloc (Nat.le_refl _) _).alloc (by simp) _).alloc (by simp;omega) _
 have g0:W3.heap[w.heap.size]?=some (.cells #[.int .i64 kind,.string ⟨name.toArray⟩,.int .i64 n,.slice x.t.a terms.length x.t.cap,.slice x.b.a binds.length x.b.cap,.slice x.l.a fl.length x.l.cap] 64 (0,0)):=by rw[<-hW3];simp only[af,World.size_alloc];repeat(first|rw[if_pos trivial]|rw[if_pos (by omega)]|rw[if_neg (by omega)])
 have g1:W3.heap[w.heap.size+1]?=some (.cells #[.int .i64 0] 39 (0,0)):=by rw[<-hW3];simp only[af,World.size_alloc];repeat(first|rw[if_pos trivial]|rw[if_pos (by omega)]|rw[if_neg (by omega)])
 have g2:W3.heap[w.heap.size+1+1]?=some (.cells #[.int .i64 kind,.string ⟨name.toArray⟩,.int .i64 n,.slice x.t.a terms.length x.t.cap,.slice x.b.a binds.length x.b.cap,.slice x.l.a fl.length x.l.cap] 64 (0,0)):=by rw[<-hW3];simp only[af,World.size_alloc];repeat(first|rw[if_pos trivial]|rw[if_pos (by omega)]|rw[if_neg (by omega)])
 have hit:=HIT.out W3 (w.heap.size+1+1) (ag hb3) g2;have G:=Lh (aI hsz (aI hb3 (aI g0 g1)));have HI2:=Lh hit;clear hW3 hsz hb3 g0 g1 g2 hit HIT Nk;refine C8 (gf:=154) (lb:=#[.pointer (some ⟨w.heap.size+1+1,0,none⟩)]) rfl (enters_of Tryz.func154 (by kernel_rfl) rfl)
  HI2.out (fun _ _=>rfl) (fun k=>k=w.heap.size+1) (fun k hk=>by have:=G.out.1;omega) (fun k hk=>by have:=G.out.1;omega)
  (fun i W=>W.heap[w.heap.size+1]?=some (.cells #[.int .i64 0] 39 (0,0))/\(RN.take i).all aH=true)
  (fun c i W=>c=.ret/\W.heap[w.heap.size+1]?=some (.cells #[.int .i64 1] 39 (0,0))/\RN.all aH=false)
  ?hI ?hIx ⟨G.out.2.2.2,rfl⟩ (fun l i a' W=>∃bx:Nat,bx≠l/\W.heap[bx]?=some (.cells ((jV ns i).2.cells (jV ns i).1).toArray 64 (0,0))/\a'= { tmps:=#[.agg #[.int .i64 kind,.string ⟨name.toArray⟩,.int .i64 n,.slice x.t.a terms.length x.t.cap,.slice x.b.a binds.length x.b.cap,.slice x.l.a fl.length x.l.cap],.pointer (some ⟨w.heap.size,0,none⟩),.pointer (some ⟨w.heap.size+1,0,none⟩),.pointer (some ⟨bx,0,none⟩),.agg #[.int .i64 kind,.string ⟨name.toArray⟩,.int .i64 n,.slice x.t.a terms.length x.t.cap,.slice x.b.a binds.length x.b.cap,.slice x.l.a fl.length x.l.cap],.func (.func 154) #[] #[.pointer (some ⟨w.heap.size+1+1,0,none⟩)],gB (jV ns i),undef,undef,undef,undef,undef,undef,undef,undef,undef,undef,undef],defers:=[]}) ?hAx ?assign ?body ?done ?stop
 case hI=>exact(eu.box (T:=fun k=>k=w.heap.size+1) (B:=w.heap.size+1) (o:=fun _=>.cells #[.int .i64 0] 39 (0,0)) rfl).and eu.pure
 case hIx=>exact fun c i A B S h hm hS=>⟨h.1,av h.2.1 hm (fun hk=>(hS _ hk).2 rfl),h.2.2⟩
 case hAx=>exact fun l i a' A B ⟨bx,h1,h2,h3⟩ hm=>⟨bx,h1,av h2 hm h1,h3⟩
 case assign=>
  rintro l i W K hi hm hI hl hK;have HK:=Lh hK;have HI3:=Lh hI;clear hK hI;generalize jV ns i=nd at HK ⊢;obtain⟨⟨mU,mV,n1,jX,jR,Jv⟩,y⟩:=nd;simp only[gB,aC.cells,aK.val,ae.kind,ae.name,ae.n,ae.terms,ae.binds,ae.l] at HK ⊢
  gi_wp2_with fail
  refine HK.out _ _ ((aa.Mod.refl _ _).alloc _) ⟨((Below.refl W.heap.size W).alloc (Nat.le_refl _) _).block _ (gS HI3.out.1).1 |>.trans HI3.out.1,HI3.out.2⟩ ⟨W.heap.size,by omega,boxed (B:=W.heap.size+1) (Below.refl _ _) (by omega),rfl⟩
 case body=>
  rintro l i a' W hi hm ⟨hrb,hgo⟩ ⟨bx,hbl,hbx,rfl⟩ hT hwl hnl;have hbW:Below w.heap.size w W:=G.out.2.1.trans (hm.below (by have:=G.out.1;omega) (fun k hk=>by omega));obtain⟨hi',hnd,hcl⟩:=Vb.out i hi W hbW;have hgi:=xg hi';have hfa:aH RN[i]=false->RN.all aH=false:=fun h=>by
   rw[List.all_eq_false];exact⟨RN[i],List.getElem_mem hi',by simp[h]⟩
  rw[<-hnd] at hgi hfa;have HH:=Lh (aI hm (aI hrb (aI hgo (aI hgi hfa))));have fZ:=Lh hcl;clear hm hrb hgo hcl hnd hbW hgi hfa;generalize jV ns i=nd at fZ HH hbx ⊢;generalize aH nd.1=v at fZ HH;obtain⟨⟨mU,mV,n1,jX,jR,Jv⟩,y⟩:=nd;simp only[gB,aC.cells,aK.val,ae.kind,ae.name,ae.n,ae.terms,ae.binds,ae.l] at fZ hbx ⊢;have b0:W.cell? ⟨bx,0,none⟩=some (.int .i64 mU):=cH hbx rfl;have b1:W.cell? ⟨bx,1,none⟩=some (.string ⟨mV.toArray⟩):=cH hbx rfl;have b2:W.cell? ⟨bx,2,none⟩=some (.int .i64 n1):=cH hbx rfl;have b3:W.cell? ⟨bx,3,none⟩=some (.slice y.t.a jX.length y.t.cap):=cH hbx rfl;have b4:W.cell? ⟨bx,4,none⟩=some (.slice y.b.a jR.length y.b.cap):=cH hbx rfl;have b5:W.cell? ⟨bx,5,none⟩=some (.slice y.l.a Jv.length y.l.cap):=cH hbx rfl;clear hbx
  gi_wp2_with fail
  refine⟨trivial,rfl,CallsIn.inRound l ((callsIn_wide.2 fZ.out).mono ?_)⟩;rintro e w1 ⟨rfl,hb1⟩;have zx:w1.heap[w.heap.size+1]?=some (.cells #[.int .i64 0] 39 (0,0)):=(hb1.block _ (gS HH.out.2.1).1).trans HH.out.2.1;have e1:w1.frozen? ⟨w.heap.size+1,0,none⟩=false:=fH zx;have e2:w1.cell? ⟨w.heap.size+1,0,none⟩=some (.int .i64 0):=cH zx rfl;have HI3:=Lh (aI zx hb1);clear zx hb1 b0 b1 b2 b3 b4 b5;cases v
  ·gi_wp2_with fail
   refine⟨(aa.Mod.of_below (S:=fun k=>k=w.heap.size+1) HI3.out.2).setCell (p:=⟨w.heap.size+1,0,none⟩) (fun _=>rfl) _,rfl,?_,HH.out.2.2.2.2 (by first|rfl|trivial)⟩;rw[aW _ HI3.out.1];rfl
  ·gi_wp2_with fail
   refine⟨aa.Mod.of_below (S:=fun k=>k=w.heap.size+1) HI3.out.2,HI3.out.1,?_⟩;rw[HH.out.2.2.2.1,HH.out.2.2.1];rfl
 case stop=>
  rintro D0 c i W hD0 hDlt hnD hi0 him hm ⟨rfl,hrb,hgo⟩ hdd;have hbW:Below w.heap.size w W:=G.out.2.1.trans (hm.below (by have:=G.out.1;omega) (fun k hk=>by omega));have E:iY w W [D0] 1:=⟨hbW,hrb,by simp,fun d hd=>by simp at hd;subst hd;exact⟨hdd,by have:=G.out.1;omega⟩⟩;have HE:=Lh E;have wW:Hid (fc=1):=Lh (by rw[Fg.out,if_pos hgo]);clear E hbW hrb hdd hm hgo
  gi_wp2_with fail
  exact HE.out.ui (fun W' hc=>by simp[results,Tryz.results74,go_sem,hc]) (fun W' hb=>⟨by rw[wW.out],hb⟩)
 case done=>
  rintro D0 W hD0 hDlt hnD hm ⟨hrb,hgo⟩ hdd;have hbW:Below w.heap.size w W:=G.out.2.1.trans (hm.below (by have:=G.out.1;omega) (fun k hk=>by omega));have PE:W.heap[w.heap.size]?=some (.cells #[.int .i64 kind,.string ⟨name.toArray⟩,.int .i64 n,.slice x.t.a terms.length x.t.cap,.slice x.b.a binds.length x.b.cap,.slice x.l.a fl.length x.l.cap] 64 (0,0)):=av G.out.2.2.1 hm (by omega);have E:iY w W [D0] 0:=⟨hbW,hrb,by simp,fun d hd=>by simp at hd;subst hd;exact⟨hdd,by have:=G.out.1;omega⟩⟩;have hall:RN.all aH=true:=by rw[hln,List.take_length] at hgo;exact hgo
  have wW:Hid (fc=if 256<sz∨24<dp then 2 else 0):=Lh (by rw[Fg.out,hall];rfl);have HE:=Lh (aI E PE);clear hrb hdd hm hgo hall E;have b0:W.cell? ⟨w.heap.size,0,none⟩=some (.int .i64 kind):=cH PE rfl;have b1:W.cell? ⟨w.heap.size,1,none⟩=some (.string ⟨name.toArray⟩):=cH PE rfl;have b2:W.cell? ⟨w.heap.size,2,none⟩=some (.int .i64 n):=cH PE rfl;have b3:W.cell? ⟨w.heap.size,3,none⟩=some (.slice x.t.a terms.length x.t.cap):=cH PE rfl;have b4:W.cell? ⟨w.heap.size,4,none⟩=some (.slice x.b.a binds.length x.b.cap):=cH PE rfl;have b5:W.cell? ⟨w.heap.size,5,none⟩=some (.slice x.l.a fl.length x.l.cap):=cH PE rfl;clear PE
  gi_wp2_with fail
  refine⟨trivial,rfl,(callsIn_wide.2 (sF.out W hbW)).mono ?_⟩;rintro e w1 ⟨rfl,hb1⟩;have hE1:=HE.out.1.later hb1;have DK:=(hb1.block _ (gS HE.out.2).1).trans HE.out.2;have hr0:w1.cell? ⟨w.heap.size+1,0,none⟩=some (.int .i64 0):=cH hE1.res rfl;have hr1:w1.frozen? ⟨w.heap.size+1,0,none⟩=false:=fH hE1.res;have wS:=Lh (aI hE1 (hbW.trans (hb1.mono hbW.size)));clear b0 b1 b2 b3 b4 b5 hE1 hb1 hbW;by_cases hs:(256:Int)<(sz:Int)
  ·gi_wp2_with fail
   refine⟨trivial,?_⟩
   gi_wp2_with fail
   exact(wS.out.1.set 2).ui (fun W' hc=>by simp[results,Tryz.results74,go_sem,hc]) (fun W' hb=>⟨by rw[wW.out,if_pos (.inl (by omega))],hb⟩)
  ·have hs':decide ((256:Int)<(sz:Int))=false:=by simpa using hs
   have b0:w1.cell? ⟨w.heap.size,0,none⟩=some (.int .i64 kind):=cH DK rfl;have b1:w1.cell? ⟨w.heap.size,1,none⟩=some (.string ⟨name.toArray⟩):=cH DK rfl;have b2:w1.cell? ⟨w.heap.size,2,none⟩=some (.int .i64 n):=cH DK rfl;have b3:w1.cell? ⟨w.heap.size,3,none⟩=some (.slice x.t.a terms.length x.t.cap):=cH DK rfl;have b4:w1.cell? ⟨w.heap.size,4,none⟩=some (.slice x.b.a binds.length x.b.cap):=cH DK rfl;have b5:w1.cell? ⟨w.heap.size,5,none⟩=some (.slice x.l.a fl.length x.l.cap):=cH DK rfl;have UZ:=Lh (Rn.out w1 wS.out.2);clear DK
   gi_wp2_with fail
   refine⟨trivial,rfl,(callsIn_wide.2 UZ.out).mono ?_⟩;rintro e w2 ⟨rfl,hb2⟩;have hE2:=wS.out.1.later hb2;have hr2:w2.cell? ⟨w.heap.size+1,0,none⟩=some (.int .i64 0):=cH hE2.res rfl;have hr3:w2.frozen? ⟨w.heap.size+1,0,none⟩=false:=fH hE2.res;have HE2:=Lh hE2;clear b0 b1 b2 b3 b4 b5 hE2 hb2 hr0 hr1;by_cases hd:(24:Int)<(dp:Int)
   ·gi_wp2_with fail
    exact(HE2.out.set 2).ui (fun W' hc=>by simp[results,Tryz.results74,go_sem,hc]) (fun W' hb=>⟨by rw[wW.out,if_pos (.inr (by omega))],hb⟩)
   ·have hd':decide ((24:Int)<(dp:Int))=false:=by simpa using hd
    gi_wp2_with fail
    exact(HE2.out.set 0).ui (fun W' hc=>by simp[results,Tryz.results74,go_sem,hc]) (fun W' hb=>⟨by rw[wW.out,if_neg (by omega)],hb⟩)
end Go.Proofs.YtncnnbmeacpboaaGreatDoor
namespace Go.aa
open Go.RowKit
variable {w W W' W0:World} {l:List ae} {b cap j B C lo sz H:Nat} {cs:List Value} {T e t:TypeId} {fz:Nat×Nat} {F:Nat->Prop} {xs:List D} {f:ae} {kind n:Int} {name:Bs} {a binds bs:List aD} {want:Option (List Int)} {out:List Int} {terms:List bH} {met:List Bs} {r:List bq} {x:bq} {s:aF} {y:aC}
def lI(a:List aD)(name:Bs):Int:=match dF a name with|some i=>i|none=> -1
theorem Be(a:List aD)(name:Bs):jc (fun j=>(a[j]?.map (fun b=>b.name==name)).getD false) a.length=lI a name:=by
 unfold lI dF;cases h:a.findIdx? (fun b=>b.name==name) with
 |none=>
  rw[List.findIdx?_eq_none_iff] at h;exact fw (fun i hi=>by rw[List.getElem?_eq_getElem hi];simpa using h _ (List.getElem_mem hi))
 |some i=>
  rw[List.findIdx?_eq_some_iff_getElem] at h;obtain⟨hi,h1,h2⟩:=h;exact fA hi (by rw[List.getElem?_eq_getElem hi];simpa using h1) (fun j hj=>by rw[List.getElem?_eq_getElem (by omega)];simpa using h2 j hj)
theorem tQ(h:w.heap[b]?=some (.cells cs.toArray T fz)):ay w b 0 cs:=fun j hj=>by
 rw[Nat.zero_add];exact cH h (by simp[hj])
theorem aj.lit(h:w.heap[b]?=some (.cells cs.toArray T fz))(hd:au w F xs cs)(hF:F b)(h1:xs.length<=cap)(h2:cap<=maxLen):aj w F xs ⟨some ⟨b,0,none⟩,b,0,cap⟩:=
 ⟨fun _=>⟨rfl,hF⟩,h1,h2,bU.mk hd (tQ h)⟩
theorem aj.nil(h2:cap<=maxLen)(a:Option Addr)(b o:Nat):aj w F [] ⟨a,b,o,cap⟩:=⟨fun h=>by simp at h,Nat.zero_le _,h2,by rw[bU];trivial⟩
theorem au.nM{x:D}(h:x.rR=true)(hk:x.fine):au w F [x] x.vals:=by
 rw[au];exact⟨x.vals,[],by simp,(bg.flat _ _ h).2 ⟨rfl,hk⟩,by rw[au]⟩
theorem au.Vz{x:aC}(h:aB w F f x):au w F [f.toD] (x.cells f):=by
 rw[au];exact⟨_,[],by simp,aB.iff.2 ⟨x,rfl,h⟩,by rw[au]⟩
theorem aB.bare(hk:ku kind)(hn:name.length<=maxLen)(h:ku n):aB w F (.mk kind name n [] [] []) ⟨vR,vR,vR⟩:=
 ⟨hk,hn,h,aj.nil (Nat.zero_le _) _ _ _,aj.nil (Nat.zero_le _) _ _ _,aj.nil (Nat.zero_le _) _ _ _⟩
theorem kH(h: -1000<=n)(h':n<=2000000000000):ku n:=⟨by omega,by omega⟩
structure yM (b:aD):Prop where
 name:b.name.length<=4000000
 sort:ku b.sort
theorem aD.fine{b:aD}(h:yM b):b.toD.fine:=by
 refine⟨?_,?_,trivial⟩
 ·rw[D.fine,aZ];have:=h.name;unfold maxLen;omega
 ·exact h.sort.wf
theorem aD.Kr{b:aD}(h:b.toD.fine)(hl:b.name.length<=4000000):yM b:=⟨hl,ku.qW h.2.1⟩
def iZ(b:aD):ae:=.mk 14 [] 0 [] [b] [.mk 1 [] 0 [] [] []]
theorem xh(b:aD):(aM (iZ b)==0)=aL b:=by
 have h:(aJ (iZ b)).all aH=aL b:=by
  simp[iZ,aJ,dU,aH,oJ,dW,bZ,cZ,dL,dn,ae.kind,ae.terms,ae.binds,ae.l,ae.n,ae.name]
 unfold aM;rw[h];cases hb:aL b
 ·rfl
 ·rw[if_neg (by simp),if_neg (by simp[iZ,ae.size,bF,ae.depth,bQ])];rfl
end Go.aa
namespace Go.Proofs.YtncnnbmeacpboaaGreatDoor
open Go.RowKit Go.aa
variable {w W W' W0:World} {l:List ae} {b cap j B C lo sz H:Nat} {cs:List Value} {T e t:TypeId} {fz:Nat×Nat} {F:Nat->Prop} {xs:List D} {f:ae} {kind n:Int} {name:Bs} {a binds bs:List aD} {want:Option (List Int)} {out:List Int} {terms:List bH} {met:List Bs} {r:List bq} {x:bq} {s:aF} {y:aC}
theorem vB(f:FuncId)(lb:Array Value)(p:Nat->Bool)(n:Nat)(c0 c1:Nat->Value)(a:Option Addr)(b o cap:Nat)(w:World)(hsl:gT (·<w.heap.size) a b o n)(hc:∀j,j<n->w.cell? ⟨b,o+j*2,none⟩=some (c0 j)/\w.cell? ⟨b,o+j*2+1,none⟩=some (c1 j))(hp:∀j,j<n->∀W,Below w.heap.size w W->Calls Tryz.prog f (#[.agg #[c0 j,c1 j]]++lb) W (dC W (p j)))(hent:∀(args:Array Value) (w:World),(callFunc f args).run Tryz.prog w=.ok (.enter f args) w)(hmax:n<=2000000):
  Calls Tryz.prog 183 #[.slice a n cap,.func (.func f) #[] lb] w fun e w'=>e=.returned (.int .i64 (jc p n))/\Below w.heap.size w w':=by
 have HC:=Lh hc;have HP:=Lh hp;clear hc hp;go_enter Tryz.func183,Tryz.ntmps183;go_wp2_with fail;go_loopw [8,5] (fun i _ wr=>∃j:Nat,j<=n/\i=.int .i64 j/\Hid (∀i,i<j->p i=false)/\Below w.heap.size w wr) (fun i _ _=>n-(intOf i).toNat)
 case atStart=>exact⟨0,Nat.zero_le _,rfl,Lh (fun i hi=>by omega),Below.refl _ _⟩
 case round=>
  obtain⟨j,hj,rfl,HF,hb⟩:=hrel;have hbs:=hb.size;by_cases hlt:j<n
  ·obtain⟨rfl,hbl⟩:=hsl (by omega);obtain⟨q0,q1⟩:=HC.out j hlt;have e0:=(hb.cell (p:=⟨b,o+j*2,none⟩) hbl).trans q0;have e1:=(hb.cell (p:=⟨b,o+j*2+1,none⟩) hbl).trans q1;have fZ:=Lh (HP.out j hlt wr hb);have HN:=Lh (fun(h:p j=true)=>fA hlt h HF.out);have HM:=Lh (fun(h:p j=false) (i:Nat) (hi:i<j+1)=>(by
    by_cases hij:i=j
    ·rw[hij];exact h
    ·exact HF.out i (by omega):p i=false))
   clear q0 q1;go_wp2_with fail;refine fZ.out.mono ?_;rintro e w' ⟨rfl,hb'⟩;have hbb:=hb.trans (hb'.mono hbs);generalize hr:p j=r at HN HM ⊢;have HR:=Lh hr;clear hr;cases r
   ·go_wp2_with fail;exact⟨⟨j+1,by omega,by go_num,Lh (HM.out (by first|rfl|trivial)),hbb⟩,by simp[intOf];omega⟩
   ·go_wp2_with fail;go_ret;exact⟨aQ (HN.out (by first|rfl|trivial)).symm,hbb⟩
  ·go_wp2_with fail;go_ret;exact⟨aQ (fw (fun i hi=>HF.out i (by omega))).symm,hb⟩
theorem GK(b:aD)(name:Bs)(p:Nat)(w:World)(hp:w.cell? ⟨p,0,none⟩=some (.string ⟨name.toArray⟩)):
  Calls Tryz.prog 184 #[.agg #[.string ⟨b.name.toArray⟩,.int .i64 b.sort],.pointer (some ⟨p,0,none⟩)] w (dC w (b.name==name)):=by
 obtain⟨nm,sort⟩:=b;simp only;have hp':=gH (x:=.cells #[.string ⟨nm.toArray⟩,.int .i64 sort] 94) hp;clear hp;go_enter Tryz.func184,Tryz.ntmps184;go_wp2_with fail;go_ret;exact⟨rfl,(Below.refl _ _).alloc (Nat.le_refl _) _⟩
theorem uX(a:List aD)(x:aK)(name:Bs)(w:World)(hx:aj w (·<w.heap.size) (a.map aD.toD) x)(hl:a.length<=2000000):
  Calls Tryz.prog 149 #[.slice x.a a.length x.cap,.string ⟨name.toArray⟩] w fun e w'=>e=.returned (.int .i64 (lI a name))/\Below w.heap.size w w':=by
 have cz:Below w.heap.size w (w.alloc (.cells #[.string ⟨name.toArray⟩] 9)):=(Below.refl _ _).alloc (Nat.le_refl _) _;have hx1:=hx.later cz (C:=(w.alloc (.cells #[.string ⟨name.toArray⟩] 9)).heap.size) (by simp);obtain⟨g1,_,_,g4,_⟩:=hx1.flat aD.bI;have hq:(w.alloc (.cells #[.string ⟨name.toArray⟩] 9)).cell? ⟨w.heap.size,0,none⟩=some (.string ⟨name.toArray⟩):=cH (boxed (B:=w.heap.size+1) (Below.refl _ _) (by omega)) rfl;have hc:=vB 184 #[.pointer (some ⟨w.heap.size,0,none⟩)] (fun j=>(a[j]?.map (fun b=>b.name==name)).getD false) a.length (fun j=>.string ⟨(a[j]?.map (·.name.toArray)).getD #[]⟩) (fun j=>.int .i64 ((a[j]?.map (·.sort)).getD 0)) x.a x.b x.o x.cap _ g1
  (fun j hj=>by
   have h:=g4.two j hj rfl;rw[List.getElem?_eq_getElem hj];exact h)
  (fun j hj W hW=>by
   rw[List.getElem?_eq_getElem hj];exact GK a[j] name w.heap.size W ((hW.cell (World.block_lt_of_cell? _ _ hq)).trans hq))
  (fun _ _=>enters_of Tryz.func184 (by kernel_rfl) rfl _ _) hl
 rw[Be] at hc;have HC:=Lh hc;have HB:=Lh cz;have Od:∀(fn:Fn) (first cap:Array Value) (w:World),(Instr.makeFunc fn first cap).run Tryz.prog w=.ok (.func fn first cap) w:=fun _ _ _ _=>rfl;clear hx hx1 g1 g4 hq hc cz;go_enter Tryz.func149,Tryz.ntmps149;go_wp2_with fail;refine HC.out.mono ?_;rintro e w1 ⟨rfl,hb⟩;have HB1:=Lh hb;clear hb;go_wp2_with fail;go_ret;exact⟨rfl,HB.out.trans (HB1.out.mono HB.out.size)⟩
theorem og(b:aD)(w:World)(hb:yM b)(hg:GG w):
  Calls Tryz.prog 112 #[.agg #[.string ⟨b.name.toArray⟩,.int .i64 b.sort]] w fun e w'=>e=.returned (.bool (aL b))/\Below w.heap.size w w':=by
 generalize hW3:(((w.alloc (.cells #[.string ⟨b.name.toArray⟩,.int .i64 b.sort] 94)).alloc (.cells #[.string ⟨b.name.toArray⟩,.int .i64 b.sort] 94)).alloc (.cells #[.int .i64 1,.string ⟨#[]⟩,.int .i64 0,.slice none 0 0,.slice none 0 0,.slice none 0 0] 64))=W3;have hsz:W3.heap.size=w.heap.size+3:=by rw[<-hW3];simp
 have hb3:Below w.heap.size w W3:=by rw[<-hW3];exact(((Below.refl _ _).alloc (Nat.le_refl _) _).alloc (by simp) _).alloc (by simp;omega) _
 have g1:W3.heap[w.heap.size+1]?=some (.cells #[.string ⟨b.name.toArray⟩,.int .i64 b.sort] 94 (0,0)):=by rw[<-hW3];simp only[af,World.size_alloc];repeat(first|rw[if_pos trivial]|rw[if_pos (by omega)]|rw[if_neg (by omega)])
 have g2:W3.heap[w.heap.size+1+1]?=some (.cells #[.int .i64 1,.string ⟨#[]⟩,.int .i64 0,.slice none 0 0,.slice none 0 0,.slice none 0 0] 64 (0,0)):=by rw[<-hW3];simp only[af,World.size_alloc];repeat(first|rw[if_pos trivial]|rw[if_pos (by omega)]|rw[if_neg (by omega)])
 have hin:aB W3 (·<W3.heap.size) (iZ b) ⟨vR,⟨some ⟨w.heap.size+1,0,none⟩,w.heap.size+1,0,1⟩,⟨some ⟨w.heap.size+1+1,0,none⟩,w.heap.size+1+1,0,1⟩⟩:=
  ⟨(show ku 14 from kH (by decide) (by decide)),Nat.zero_le _,(show ku 0 from kH (by decide) (by decide)),aj.nil (Nat.zero_le _) _ _ _,aj.lit (cs:=b.toD.vals) g1 (au.nM (aD.bI.flat b) (aD.fine hb)) (by show _<_;omega) (Nat.le_refl _) (by decide),
   aj.lit (cs:=(⟨vR,vR,vR⟩:aC).cells (.mk 1 [] 0 [] [] [])) g2 (au.Vz (aB.bare (kH (by decide) (by decide)) (Nat.zero_le _) (kH (by decide) (by decide)))) (by show _<_;omega) (Nat.le_refl _) (by decide)⟩
 have hfit:gZ (iZ b):=⟨by simp[iZ,ae.size,bF],fun g hg=>by
  simp only[iZ,aJ,dU,List.append_nil,List.mem_cons,List.not_mem_nil,or_false] at hg;rcases hg with rfl|rfl
  ·refine⟨by simp[ae.terms],by simp[ae.binds],by simp[ae.l],by simp[ae.name],fun t ht=>by simp[ae.terms] at ht,fun c hc=>?_⟩;simp only[ae.binds,List.mem_singleton] at hc;subst hc;exact hb.name
  ·exact⟨by simp[ae.terms],by simp[ae.binds],by simp[ae.l],by simp[ae.name],fun t ht=>by simp[ae.terms] at ht,fun c hc=>by simp[ae.binds] at hc⟩⟩
 have hc:=mi (iZ b) _ W3 hin hfit (hg.below hb3);have he:=xh b;rw[show iZ b=.mk 14 [] 0 [] [b] [.mk 1 [] 0 [] [] []] from rfl] at he;simp only[iZ,gB,aC.cells,aK.val,ae.kind,ae.name,ae.n,ae.terms,ae.binds,ae.l,List.length_nil,List.length_singleton,vR] at hc;rw[<-hW3] at hc;have HC:=Lh hc;have HE:=Lh he;have HB:=Lh (aI hb3 hW3);clear hc hin hfit g1 g2 hsz hb3 hb hg he hW3;generalize aM (.mk 14 [] 0 [] [b] [.mk 1 [] 0 [] [] []])=fc at HC HE;obtain⟨name,sort⟩:=b;simp only at HC HB ⊢;go_enter Tryz.func112,Tryz.ntmps112;go_wp2_with fail;refine HC.out.mono ?_;rintro e w1 ⟨rfl,hb1⟩;have HB1:=Lh hb1;clear hb1;go_wp2_with fail;go_ret;have h:=HB.out.1;rw[<-HB.out.2] at h;exact⟨bT HE.out,h.trans (HB1.out.mono h.size)⟩
theorem Iz(b:aD)(w:World)(hb:yM b)(hg:GG w):
  Calls Tryz.prog 111 #[.agg #[.string ⟨b.name.toArray⟩,.int .i64 b.sort]] w (dC w (!(aL b))):=by
 have cz:Below w.heap.size w (w.alloc (.cells #[.string ⟨b.name.toArray⟩,.int .i64 b.sort] 94)):=(Below.refl _ _).alloc (Nat.le_refl _) _;have HT:=Lh (og b _ hb (hg.below cz));have HB:=Lh cz;clear hb hg cz;generalize aL b=v at HT ⊢;obtain⟨name,sort⟩:=b;simp only at*;go_enter Tryz.func111,Tryz.ntmps111;go_wp2_with fail;refine HT.out.mono ?_;rintro e w1 ⟨rfl,hb1⟩;have HB1:=Lh hb1;clear hb1;go_wp2_with fail;go_ret;exact⟨rfl,HB.out.trans (HB1.out.mono HB.out.size)⟩
theorem Km(l:List aD)(x:aK)(w:World)(hx:aj w (·<w.heap.size) (l.map aD.toD) x)(hl:l.length<=2000000)(hmax:∀t∈l,t.name.length<=4000000)(hg:GG w):
  Calls Tryz.prog 113 #[.slice x.a l.length x.cap,.func (.func 111) #[] #[]] w fun e w'=>e=.returned (.bool (!(l.all aL)))/\Below w.heap.size w w':=by
 obtain⟨g1,_,_,g4,g5⟩:=hx.flat aD.bI;rw[show(!(l.all aL))=l.any (fun b=>!(aL b)) from by rw[List.all_eq_not_any_not,Bool.not_not],<-iq];refine lZ 111 #[] (fun j=>(l[j]?.map (fun b=>!(aL b))).getD false) l.length (fun j=>.string ⟨(l[j]?.map (·.name.toArray)).getD #[]⟩) (fun j=>.int .i64 ((l[j]?.map (·.sort)).getD 0)) x.a x.b x.o x.cap w g1 ?_ ?_ (fun _ _=>enters_of Tryz.func111 (by kernel_rfl) rfl _ _) hl
 ·intro j hj;have h:=g4.two j hj rfl;rw[List.getElem?_eq_getElem hj];exact h
 ·intro j hj W hW;rw[List.getElem?_eq_getElem hj];exact Iz l[j] W (aD.Kr (g5 _ (List.getElem_mem hj)) (hmax _ (List.getElem_mem hj))) (hg.below hW)
def FM(a:List aD)(i:Nat):Bool:=match a[i]? with|some b=>aL b&&(dF a b.name==some i)|none=>true
theorem Oy(a:List aD):kZ a=(List.range a.length).all (FM a):=rfl
theorem LC(a:List aD)(i:Nat)(hi:i<a.length):FM a i=(aL a[i]&&!(lI a a[i].name !=(i:Int))):=by
 unfold FM lI;rw[List.getElem?_eq_getElem hi];simp only;congr 1;cases h:dF a a[i].name with
 |none=>
  have h2:((-1:Int) !=(i:Int))=true:=by simp
  simp only[h2];rfl
 |some k=>
  by_cases hk:k=i
  ·subst hk;simp
  ·have h2:((k:Int) !=(i:Int))=true:=by simp;omega
   have h3:(some k==some i)=false:=by simp;omega
   simp only[h2,h3];rfl
theorem JX(a:List aD)(x:aK)(w:World)(hx:aj w (·<w.heap.size) (a.map aD.toD) x)(hl:a.length<=2000000)(hmax:∀t∈a,t.name.length<=4000000)(hg:GG w):
  Calls Tryz.prog 114 #[.slice x.a a.length x.cap] w fun e w'=>e=.returned (.bool (kZ a))/\Below w.heap.size w w':=by
 obtain⟨g1,_,_,g4,g5⟩:=hx.flat aD.bI;have HC:=Lh g4;have HX:=Lh hx;have zZ:=Lh (fun(j:Nat) (hj:j<a.length)=>aD.Kr (g5 _ (List.getElem_mem hj)) (hmax _ (List.getElem_mem hj)));have HG:=Lh hg;rw[Oy];clear hx hg g4 g5 hmax;go_enter Tryz.func114,Tryz.ntmps114;go_wp2_with fail;go_loopw [7] (fun i wr=>∃j:Nat,j<=a.length/\i=.int .i64 j/\Below w.heap.size w wr/\Hid (∀i,i<j->FM a i=true)) (fun i _=>a.length-(intOf i).toNat)
 case atStart=>exact⟨0,Nat.zero_le _,rfl,Below.refl _ _,Lh (fun i h=>by omega)⟩
 case round=>
  obtain⟨j,hj,rfl,hb,HM⟩:=hrel;by_cases hlt:j<a.length
  ·obtain⟨hxa,hbl⟩:=g1 (by omega);obtain⟨q0,q1⟩:=HC.out.two j hlt rfl;have e0:=(hb.cell (p:=⟨x.b,x.o+j*2,none⟩) hbl).trans q0;have e1:=(hb.cell (p:=⟨x.b,x.o+j*2+1,none⟩) hbl).trans q1;have cz:Below w.heap.size w (wr.alloc (.cells #[.string ⟨a[j].name.toArray⟩,.int .i64 a[j].sort] 94)):=hb.alloc hb.size _;have P5:=Lh (og a[j] (wr.alloc (.cells #[.string ⟨a[j].name.toArray⟩,.int .i64 a[j].sort] 94)) (zZ.out j hlt) (HG.out.below cz));have yQ:=Lh (fun(W:World) (hW:Below w.heap.size w W)=>uX a x a[j].name W (HX.out.later hW hW.size) hl);have HE:=Lh (LC a j hlt);have ni:=Lh cz;rw[hxa] at yQ ⊢;clear q0 q1 cz;generalize lI a a[j].name=fi at yQ HE;generalize hbe:a[j]=be at P5 yQ HE ni e0 e1;obtain⟨nm,so⟩:=be;simp only at P5 yQ HE ni e0 e1;generalize aL ⟨nm,so⟩=bo at P5 HE;clear hbe;go_wp2_with fail;refine P5.out.mono ?_;rintro e w1 ⟨rfl,hb1⟩;have hb1':=ni.out.trans (hb1.mono ni.out.size);have q0:w1.cell? ⟨wr.heap.size,0,none⟩=some (.string ⟨nm.toArray⟩):=cH (boxed (B:=wr.heap.size+1) (by simpa using hb1) (by omega)) rfl;have HB1:=Lh hb1';clear hb1 hb1';cases bo
   ·go_wp2_with fail;go_ret;exact⟨bT (List.all_eq_false.2 ⟨j,List.mem_range.2 hlt,by rw[HE.out];simp⟩).symm,HB1.out⟩
   ·have Xb:=Lh (yQ.out w1 HB1.out);have hd:(fi !=(j:Int))=true∨(fi !=(j:Int))=false:=by cases (fi !=(j:Int))<;>simp
    rcases hd with hd|hd
    ·go_wp2_with fail;refine Xb.out.mono ?_;rintro e w2 ⟨rfl,hb2⟩;have HB2:=Lh (HB1.out.trans (hb2.mono HB1.out.size));clear hb2 q0;go_wp2_with fail;go_ret;exact⟨bT (List.all_eq_false.2 ⟨j,List.mem_range.2 hlt,by rw[HE.out];simp at hd;simp[hd]⟩).symm,HB2.out⟩
    ·obtain rfl:fi=j:=int_eq hd;clear hd;go_wp2_with fail;refine Xb.out.mono ?_;rintro e w2 ⟨rfl,hb2⟩;have HB2:=Lh (HB1.out.trans (hb2.mono HB1.out.size));clear hb2 q0;go_wp2_with fail;refine⟨⟨j+1,by omega,by go_num,HB2.out,Lh (fun i hi=>?_)⟩,by simp[intOf];omega⟩;by_cases hij:i=j
     ·rw[hij,HE.out];simp
     ·exact HM.out i (by omega)
  ·go_wp2_with fail;go_ret;exact⟨bT (List.all_eq_true.2 (fun i hi=>HM.out i (by have:=List.mem_range.1 hi;omega))).symm,hb⟩
theorem MF(a:List aD){kind:Int}(name:Bs)(n:Int)(h:kind=1):aP a ⟨kind,name,n⟩=(8,0):=by unfold aP;rw[if_pos h]
theorem IK(n:Int)(h:¬kind=1)(hf:dF a name=none):aP a ⟨kind,name,n⟩=(0,81):=by unfold aP;simp only[if_neg h,hf]
theorem IL(n:Int)(h:¬kind=1){i:Nat}(hf:dF a name=some i)(hi:i<a.length):aP a ⟨kind,name,n⟩=if kind=2 then(a[i].sort,0) else if(ji kind).1≠a[i].sort then(0,80) else((ji kind).2,0):=by
 unfold aP;simp only[if_neg h,hf,List.getElem?_eq_getElem hi]
theorem CE(a:List aD)(x:aK)(t:bH)(w:World)(hx:aj w (·<w.heap.size) (a.map aD.toD) x)(hl:a.length<=2000000)(hk:1<=t.kind/\t.kind<=7)(hg:GG w):
  Calls Tryz.prog 151 #[.slice x.a a.length x.cap,.agg #[.int .i64 t.kind,.string ⟨t.name.toArray⟩,.int .i64 t.n]] w fun e w'=>e=.returned (.tuple #[.int .i64 (aP a t).1,.int .i64 (aP a t).2])/\Below w.heap.size w w':=by
 obtain⟨kind,name,n⟩:=t;simp only at hk ⊢;have cz:Below w.heap.size w (w.alloc (.cells #[.int .i64 kind,.string ⟨name.toArray⟩,.int .i64 n] 92)):=(Below.refl _ _).alloc (Nat.le_refl _) _;have HB:=Lh cz;by_cases h1:kind=1
 ·rw[MF a name n h1];clear hx hg cz;subst h1;go_enter Tryz.func151,Tryz.ntmps151;go_wp2_with fail;go_ret2;exact⟨rfl,HB.out⟩
 ·have h1':(kind==1)=false:=by simpa using h1
  have HF:=Lh (uX a x name _ (hx.later cz (C:=(w.alloc (.cells #[.int .i64 kind,.string ⟨name.toArray⟩,.int .i64 n] 92)).heap.size) (by simp)) hl);cases hf:dF a name with
  |none=>
   rw[IK n h1 hf];have hfi:lI a name= -1:=by unfold lI;rw[hf]
   rw[hfi] at HF;clear hx hg cz hf hfi;go_enter Tryz.func151,Tryz.ntmps151;go_wp2_with fail;refine HF.out.mono ?_;rintro e w1 ⟨rfl,hb1⟩;have HB1:=Lh hb1;clear hb1;go_wp2_with fail;go_ret2;exact⟨rfl,HB.out.trans (HB1.out.mono HB.out.size)⟩
  |some i=>
   have hi:i<a.length:=(List.findIdx?_eq_some_iff_getElem.1 hf).1;rw[IL n h1 hf hi];have hfi:lI a name=i:=by unfold lI;rw[hf]
   rw[hfi] at HF;obtain⟨g1,_,_,g4,g5⟩:=hx.flat aD.bI;obtain⟨q0,q1⟩:=g4.two i hi rfl;obtain⟨hxa,hbl⟩:=g1 (by omega);have HQ:=Lh (fun(W:World) (hb:Below w.heap.size w W)=>(hb.cell (p:=⟨x.b,x.o+i*2+1,none⟩) hbl).trans q1);have HG:=Lh (fun(W:World) (hb:Below w.heap.size w W)=>(hg.below hb).takes kind.toNat (by omega));have hkn:((kind.toNat:Nat):Int)=kind:=by omega
   rw[hkn] at HG;rw[hxa] at HF ⊢;clear hx hg cz hf hfi g1 g4 g5 q0 q1 hxa hbl;generalize a[i].sort=so at HQ ⊢;generalize a.length=al at hl hi HF ⊢;by_cases h2:kind=2
   ·subst h2;rw[if_pos rfl];clear hkn HG h1' hk h1;go_enter Tryz.func151,Tryz.ntmps151;go_wp2_with fail;refine HF.out.mono ?_;rintro e w1 ⟨rfl,hb1⟩;have HB1:=Lh (HB.out.trans (hb1.mono HB.out.size));have q0:w1.cell? ⟨w.heap.size,0,none⟩=some (.int .i64 2):=cH (boxed (B:=w.heap.size+1) (by simpa using hb1) (by omega)) rfl;have q1:=HQ.out w1 HB1.out;clear hb1;go_wp2_with fail;go_ret2;exact⟨rfl,HB1.out⟩
   ·rw[if_neg h2];have h2':(kind==2)=false:=by simpa using h2
    obtain⟨k,hkk⟩:∃k,k=kind.toNat:=⟨_,rfl⟩;rw[<-hkk] at HG hkn;clear hkk;subst hkn;generalize (ji (k:Int)).1=t1 at HG ⊢;generalize (ji (k:Int)).2=t2 at HG ⊢;have hd:(t1≠so/\(t1 !=so)=true)∨(t1=so/\(t1 !=so)=false):=by by_cases h:t1=so<;>simp[h]
    rcases hd with⟨d1,d2⟩|⟨d1,d2⟩
    ·rw[if_pos d1];have HD:=Lh d1;clear d1;go_enter Tryz.func151,Tryz.ntmps151;go_wp2_with fail;refine HF.out.mono ?_;rintro e w1 ⟨rfl,hb1⟩;have HB1:=Lh (HB.out.trans (hb1.mono HB.out.size));have q0:w1.cell? ⟨w.heap.size,0,none⟩=some (.int .i64 k):=cH (boxed (B:=w.heap.size+1) (by simpa using hb1) (by omega)) rfl;have q1:=HQ.out w1 HB1.out;obtain⟨q2,q3⟩:=HG.out w1 HB1.out;clear hb1;have hin:(i:Int)<(al:Int):=by omega
     have hkb:(k:Int)<8:=by omega
     go_wp2_with fail;go_quiet (fail);go_wp2_with fail;go_ret2;exact⟨rfl,HB1.out.trans ⟨rfl,rfl,rfl,Nat.le_refl _,fun _ _=>rfl⟩⟩
    ·subst d1;rw[if_neg (by simp)];go_enter Tryz.func151,Tryz.ntmps151;go_wp2_with fail;refine HF.out.mono ?_;rintro e w1 ⟨rfl,hb1⟩;have HB1:=Lh (HB.out.trans (hb1.mono HB.out.size));have q0:w1.cell? ⟨w.heap.size,0,none⟩=some (.int .i64 k):=cH (boxed (B:=w.heap.size+1) (by simpa using hb1) (by omega)) rfl;have q1:=HQ.out w1 HB1.out;obtain⟨q2,q3⟩:=HG.out w1 HB1.out;clear hb1;have hin:(i:Int)<(al:Int):=by omega
     have hkb:(k:Int)<8:=by omega
     go_wp2_with fail;go_quiet (fail);go_wp2_with fail;go_ret2;exact⟨rfl,HB1.out.trans ⟨rfl,rfl,rfl,Nat.le_refl _,fun _ _=>rfl⟩⟩
end Go.Proofs.YtncnnbmeacpboaaGreatDoor
namespace Go.aa
open Go.RowKit
variable {w W W' W0:World} {l:List ae} {b cap j B C lo sz H:Nat} {cs:List Value} {T e t:TypeId} {fz:Nat×Nat} {F:Nat->Prop} {xs:List D} {f:ae} {kind n:Int} {name:Bs} {a binds bs:List aD} {want:Option (List Int)} {out:List Int} {terms:List bH} {met:List Bs} {r:List bq} {x:bq} {s:aF} {y:aC}
def jJ(want:Option (List Int))(i:Nat)(s:Int):Bool:=match want with|some ws=>ws[i]?.getD 0 !=s|none=>false
def eZ(a:List aD)(want:Option (List Int)):List bH->Nat->List Int->List Int×Int
 |[],_,out=>(out,0)
 |t::r,i,out=>if(aP a t).2≠0 then([],(aP a t).2) else if jJ want i (aP a t).1=true then([],80) else eZ a want r (i+1) (out++[(aP a t).1])
def jH(a:List aD)(want:Option (List Int))(l:List bH):List Int×Int:=eZ a want l 0 []
theorem lL{l:List bH}(hj:j<l.length){e1:Int}(he:(aP a l[j]).2=e1)(h:e1≠0):eZ a want (l.drop j) j out=([],e1):=by
 rw[List.drop_eq_getElem_cons hj,eZ,if_pos (by rw[he];exact h),he]
theorem rf{ws:List Int}{l:List bH}(hj:j<l.length)(he:(aP a l[j]).2=0){x s:Int}(hs:(aP a l[j]).1=s)(hx:ws[j]?.getD 0=x)(h:x≠s):eZ a (some ws) (l.drop j) j out=([],80):=by
 rw[List.drop_eq_getElem_cons hj,eZ,if_neg (by rw[he];simp),if_pos (by unfold jJ;simp only[hx,hs];simpa using h)]
theorem qZ{l:List bH}(hj:j<l.length)(he:(aP a l[j]).2=0){s:Int}(hs:(aP a l[j]).1=s)(h:jJ want j s=false):eZ a want (l.drop j) j out=eZ a want (l.drop (j+1)) (j+1) (out++[s]):=by
 conv=>lhs;rw[List.drop_eq_getElem_cons hj,eZ,if_neg (by rw[he];simp),hs]
 rw[if_neg (by rw[h];simp)]
theorem yF(h:∀b∈a,ku b.sort)(t:bH):ku (aP a t).1/\ku (aP a t).2:=by
 have k:∀n:Int,0<=n->n<=100->ku n:=fun n h1 h2=>kH (by omega) (by omega);unfold aP;split
 ·exact⟨k _ (by decide) (by decide),k _ (by decide) (by decide)⟩
 ·split
  ·exact⟨k _ (by decide) (by decide),k _ (by decide) (by decide)⟩
  ·split
   ·exact⟨k _ (by decide) (by decide),k _ (by decide) (by decide)⟩
   ·rename_i b hb;split
    ·exact⟨h _ (List.mem_of_getElem? hb),k 0 (by decide) (by decide)⟩
    ·split
     ·exact⟨k _ (by decide) (by decide),k _ (by decide) (by decide)⟩
     ·refine⟨?_,k 0 (by decide) (by decide)⟩;unfold ji
      repeat' split
      all_goals exact k _ (by decide) (by decide)
end Go.aa
namespace Go.Proofs.YtncnnbmeacpboaaGreatDoor
open Go.RowKit Go.aa
variable {w W W' W0:World} {l:List ae} {b cap j B C lo sz H:Nat} {cs:List Value} {T e t:TypeId} {fz:Nat×Nat} {F:Nat->Prop} {xs:List D} {f:ae} {kind n:Int} {name:Bs} {a binds bs:List aD} {want:Option (List Int)} {out:List Int} {terms:List bH} {met:List Bs} {r:List bq} {x:bq} {s:aF} {y:aC}
theorem IM(a:List aD)(x:aK)(l:List bH)(y:aK)(w:World)(hx:aj w (·<w.heap.size) (a.map aD.toD) x)(hy:aj w (·<w.heap.size) (l.map bH.toD) y)(hl:a.length<=2000000)(ZO:l.length<=2000000)(hk:∀t∈l,1<=t.kind/\t.kind<=7)(hg:GG w):
  Calls Tryz.prog 150 #[.slice y.a l.length y.cap,.func (.func 151) #[.slice x.a a.length x.cap] #[],.slice none 0 0] w fun e w'=>∃v,e=.returned (.tuple #[v,.int .i64 (jH a none l).2])/\fV w' w.heap.size (fun _=>False) 3 1 v (bD (jH a none l).1)/\Below w.heap.size w w':=by
 obtain⟨g1,_,_,g4,g5⟩:=hy.flat bH.bI;have HC:=Lh g4;have HY:=Lh hy;have HX:=Lh hx;have hbi:∀b∈a,ku b.sort:=fun b hb=>by
  obtain⟨_,_,_,_,k5⟩:=hx.flat aD.bI;have:=(k5 b hb).2.1;exact ku.qW this
 have HS:=Lh (fun t=>yF hbi t);have HK:=Lh (fun(j:Nat) (hj:j<l.length)=>hk _ (List.getElem_mem hj));have HG:=Lh hg;obtain⟨i0,hi,hz0,hz1,hz2⟩:=info_parts FH;clear hx hy hg g4 g5 hbi hk;go_enter Tryz.func150,Tryz.ntmps150;go_wp2_with fail;go_loopw [6,7,14] (fun o ee i wr=>∃(j:Nat) (out:List Int),j<=l.length/\i=.int .i64 j/\ee=.int .i64 0/\Below w.heap.size w wr/\Hid (fV wr w.heap.size (fun _=>False) 3 1 o (bD out))/\Hid (out.length=j/\yL out/\jH a none l=eZ a none (l.drop j) j out)) (fun _ _ i _=>l.length-(intOf i).toNat)
 case atStart=>exact⟨0,[],Nat.zero_le _,rfl,rfl,Below.refl _ _,Lh (fV.nil _ _ _ _ _ (fun _ h=>h.elim)),Lh ⟨rfl,(by intro z hz;cases hz),rfl⟩⟩
 case round=>
  obtain⟨j,out,hj,rfl,rfl,hb,HO,HE⟩:=hrel;obtain⟨oa,iA,ho⟩:=HO.out.form;subst ho;obtain⟨n,hn⟩:∃n,n=(bD out).length:=⟨_,rfl⟩;rw[<-hn] at HO ⊢;have HN:=Lh hn;clear hn;by_cases hlt:j<l.length
  ·obtain⟨hxa,hbl⟩:=g1 (by omega);obtain⟨q0,q1,q2⟩:=HC.out.three j hlt rfl;have e0:=(hb.cell (p:=⟨y.b,y.o+j*3,none⟩) hbl).trans q0;have e1:=(hb.cell (p:=⟨y.b,y.o+j*3+1,none⟩) hbl).trans q1;have e2:=(hb.cell (p:=⟨y.b,y.o+j*3+2,none⟩) hbl).trans q2;have cz:Below w.heap.size w (wr.alloc (.cells #[.int .i64 l[j].kind,.string ⟨l[j].name.toArray⟩,.int .i64 l[j].n] 92)):=hb.alloc hb.size _;have Js:=Lh (CE a x l[j] _ (HX.out.later cz cz.size) hl (HK.out j hlt) (HG.out.below cz));have JL:=Lh (HO.out.below ((Below.refl _ _).alloc (Nat.le_refl _) (.cells #[.int .i64 l[j].kind,.string ⟨l[j].name.toArray⟩,.int .i64 l[j].n] 92)));obtain⟨s1,hs1⟩:∃s1,(aP a l[j]).1=s1:=⟨_,rfl⟩;obtain⟨c1,hc1⟩:∃c1,(aP a l[j]).2=c1:=⟨_,rfl⟩;have HI:=Lh (HS.out l[j]);rw[hs1,hc1] at Js HI;have HF:=Lh (aI hs1 hc1);have ni:=Lh cz;rw[hxa];clear q0 q1 q2 cz hs1 hc1;generalize hte:l[j]=te at Js ni JL e0 e1 e2;obtain⟨tk,tn,tv⟩:=te;simp only at Js ni JL e0 e1 e2;clear hte;have hc:(c1=0/\(c1==0)=true)∨(¬c1=0/\(c1==0)=false):=by by_cases h:c1=0<;>simp[h]
   go_wp2_with fail;refine Js.out.mono ?_;rintro e w1 ⟨rfl,hb1⟩;have HB1:=Lh (ni.out.trans (hb1.mono ni.out.size));have Sc:=Lh (JL.out.below hb1);clear hb1;rcases hc with⟨hc1,hc2⟩|⟨hc1,hc2⟩
   ·subst hc1;clear hc2;go_wp2_with (at_builtin;go_must (refine gX rfl _ _ 30 rfl 3 i0 _ 1 8 Tryz.underlying30 hi hz0 hz1 hz2 rfl (by decide) (.slice oa n iA) (bD out) (.int .i64 s1) [.int .i64 s1] 3 rfl rfl Sc.out (au.nM (x:=.int .i64 s1) rfl HI.out.1.wf) (by have:=HB1.out.size;omega) rfl (by rw[iw];simp) (by have:=HE.out.1;rw[iv];unfold maxLen;omega) (by have:=HE.out.1;rw[iv];omega) ?_);intro ao cap w5 hon hb5;have lS:=Lh (aI hon (HB1.out.trans hb5));clear hon hb5;rw[<-HN.out]);refine⟨⟨j+1,out++[s1],by omega,by go_num,rfl,lS.out.2,Lh ?_,Lh ⟨by have:=HE.out.1;simp;omega,fun z hz=>?_,by rw[HE.out.2.2,qZ hlt HF.out.2 HF.out.1 rfl]⟩⟩,by simp[intOf];omega⟩
    ·rw[qF,HN.out];exact lS.out.1
    ·rcases List.mem_append.1 hz with hz|hz
     ·exact HE.out.2.1 z hz
     ·simp at hz;subst hz;exact HI.out.1
   ·have yP:=Lh hc1;clear hc1;go_wp2_with fail;go_ret2;refine⟨.slice none 0 0,by rw[HE.out.2.2,lL hlt HF.out.2 yP.out];rfl,?_,HB1.out⟩;rw[HE.out.2.2,lL hlt HF.out.2 yP.out];exact fV.nil _ _ _ _ _ (fun _ h=>h.elim)
  ·go_wp2_with fail;go_ret2;have he:jH a none l=(out,0):=by rw[HE.out.2.2,List.drop_eq_nil_of_le (by omega),eZ]
   rw[he];exact⟨_,rfl,HO.out,hb⟩
theorem EJ(a:List aD)(x:aK)(l:List bH)(y:aK)(ws:List Int)(wb wo wc:Nat)(w:World)(hx:aj w (·<w.heap.size) (a.map aD.toD) x)(hy:aj w (·<w.heap.size) (l.map bH.toD) y)(hl:a.length<=2000000)(ZO:l.length<=2000000)(hk:∀t∈l,1<=t.kind/\t.kind<=7)(hwl:ws.length=l.length)(hwb:wb<w.heap.size)(hwc:∀i (h:i<ws.length),w.cell? ⟨wb,wo+i,none⟩=some (.int .i64 ws[i]))(hg:GG w):
  Calls Tryz.prog 150 #[.slice y.a l.length y.cap,.func (.func 151) #[.slice x.a a.length x.cap] #[],.slice (some ⟨wb,wo,none⟩) ws.length wc] w fun e w'=>∃v,e=.returned (.tuple #[v,.int .i64 (jH a (some ws) l).2])/\fV w' w.heap.size (fun _=>False) 3 1 v (bD (jH a (some ws) l).1)/\Below w.heap.size w w':=by
 obtain⟨g1,_,_,g4,g5⟩:=hy.flat bH.bI;have HC:=Lh g4;have HY:=Lh hy;have HX:=Lh hx;have hbi:∀b∈a,ku b.sort:=fun b hb=>by
  obtain⟨_,_,_,_,k5⟩:=hx.flat aD.bI;have:=(k5 b hb).2.1;exact ku.qW this
 have HS:=Lh (fun t=>yF hbi t);have HK:=Lh (fun(j:Nat) (hj:j<l.length)=>hk _ (List.getElem_mem hj));have HG:=Lh hg;have HW:=Lh (aI hwb hwc);have Ur:=Lh hwl;clear hwc hwl;obtain⟨i0,hi,hz0,hz1,hz2⟩:=info_parts FH;clear hx hy hg g4 g5 hbi hk;go_enter Tryz.func150,Tryz.ntmps150;go_wp2_with fail;go_loopw [6,7,14] (fun o ee i wr=>∃(j:Nat) (out:List Int),j<=l.length/\i=.int .i64 j/\ee=.int .i64 0/\Below w.heap.size w wr/\Hid (fV wr w.heap.size (fun _=>False) 3 1 o (bD out))/\Hid (out.length=j/\yL out/\jH a (some ws) l=eZ a (some ws) (l.drop j) j out)) (fun _ _ i _=>l.length-(intOf i).toNat)
 case atStart=>exact⟨0,[],Nat.zero_le _,rfl,rfl,Below.refl _ _,Lh (fV.nil _ _ _ _ _ (fun _ h=>h.elim)),Lh ⟨rfl,(by intro z hz;cases hz),rfl⟩⟩
 case round=>
  obtain⟨j,out,hj,rfl,rfl,hb,HO,HE⟩:=hrel;obtain⟨oa,iA,ho⟩:=HO.out.form;subst ho;obtain⟨n,hn⟩:∃n,n=(bD out).length:=⟨_,rfl⟩;rw[<-hn] at HO ⊢;have HN:=Lh hn;clear hn;by_cases hlt:j<l.length
  ·obtain⟨hxa,hbl⟩:=g1 (by omega);obtain⟨q0,q1,q2⟩:=HC.out.three j hlt rfl;have e0:=(hb.cell (p:=⟨y.b,y.o+j*3,none⟩) hbl).trans q0;have e1:=(hb.cell (p:=⟨y.b,y.o+j*3+1,none⟩) hbl).trans q1;have e2:=(hb.cell (p:=⟨y.b,y.o+j*3+2,none⟩) hbl).trans q2;have cz:Below w.heap.size w (wr.alloc (.cells #[.int .i64 l[j].kind,.string ⟨l[j].name.toArray⟩,.int .i64 l[j].n] 92)):=hb.alloc hb.size _;have Js:=Lh (CE a x l[j] _ (HX.out.later cz cz.size) hl (HK.out j hlt) (HG.out.below cz));have JL:=Lh (HO.out.below ((Below.refl _ _).alloc (Nat.le_refl _) (.cells #[.int .i64 l[j].kind,.string ⟨l[j].name.toArray⟩,.int .i64 l[j].n] 92)));obtain⟨s1,hs1⟩:∃s1,(aP a l[j]).1=s1:=⟨_,rfl⟩;obtain⟨c1,hc1⟩:∃c1,(aP a l[j]).2=c1:=⟨_,rfl⟩;have HI:=Lh (HS.out l[j]);rw[hs1,hc1] at Js HI;have HF:=Lh (aI hs1 hc1);have ni:=Lh cz;rw[hxa];clear q0 q1 q2 cz hs1 hc1;generalize hte:l[j]=te at Js ni JL e0 e1 e2;obtain⟨tk,tn,tv⟩:=te;simp only at Js ni JL e0 e1 e2;clear hte;have hc:(c1=0/\(c1==0)=true)∨(¬c1=0/\(c1==0)=false):=by by_cases h:c1=0<;>simp[h]
   go_wp2_with fail;refine Js.out.mono ?_;rintro e w1 ⟨rfl,hb1⟩;have HB1:=Lh (ni.out.trans (hb1.mono ni.out.size));have Sc:=Lh (JL.out.below hb1);clear hb1;rcases hc with⟨hc1,hc2⟩|⟨hc1,hc2⟩
   ·subst hc1;clear hc2;obtain⟨xw,Wm⟩:∃xw,ws[j]?.getD 0=xw:=⟨_,rfl⟩;have hwc:=(HB1.out.cell (p:=⟨wb,wo+j,none⟩) HW.out.1).trans (HW.out.2 j (by have:=Ur.out;omega));rw[show ws[j]'(by have:=Ur.out;omega)=xw from by rw[<-Wm,List.getElem?_eq_getElem (by have:=Ur.out;omega)];rfl] at hwc;have DL:(j:Int)<(ws.length:Int):=by have:=Ur.out;omega
    have Qo:=Lh Wm;clear Wm;have hd:(xw≠s1/\(xw !=s1)=true)∨(xw=s1/\(xw !=s1)=false):=by by_cases h:xw=s1<;>simp[h]
    rcases hd with⟨d1,d2⟩|⟨d1,d2⟩
    ·have HD:=Lh d1;clear d1;go_wp2_with fail;go_ret2;refine⟨.slice none 0 0,by rw[HE.out.2.2,rf hlt HF.out.2 HF.out.1 Qo.out HD.out];rfl,?_,HB1.out⟩;rw[HE.out.2.2,rf hlt HF.out.2 HF.out.1 Qo.out HD.out];exact fV.nil _ _ _ _ _ (fun _ h=>h.elim)
    ·obtain rfl:s1=xw:=d1.symm;clear d2;go_wp2_with (at_builtin;go_must (refine gX rfl _ _ 30 rfl 3 i0 _ 1 8 Tryz.underlying30 hi hz0 hz1 hz2 rfl (by decide) (.slice oa n iA) (bD out) (.int .i64 s1) [.int .i64 s1] 3 rfl rfl Sc.out (au.nM (x:=.int .i64 s1) rfl HI.out.1.wf) (by have:=HB1.out.size;omega) rfl (by rw[iw];simp) (by have:=HE.out.1;rw[iv];unfold maxLen;omega) (by have:=HE.out.1;rw[iv];omega) ?_);intro ao cap w5 hon hb5;have lS:=Lh (aI hon (HB1.out.trans hb5));clear hon hb5;rw[<-HN.out]);refine⟨⟨j+1,out++[s1],by omega,by go_num,rfl,lS.out.2,Lh ?_,Lh ⟨by have:=HE.out.1;simp;omega,fun z hz=>?_,by rw[HE.out.2.2,qZ hlt HF.out.2 HF.out.1 (by unfold jJ;simp only[Qo.out];simp)]⟩⟩,by simp[intOf];omega⟩
     ·rw[qF,HN.out];exact lS.out.1
     ·rcases List.mem_append.1 hz with hz|hz
      ·exact HE.out.2.1 z hz
      ·simp at hz;subst hz;exact HI.out.1
   ·have yP:=Lh hc1;clear hc1;go_wp2_with fail;go_ret2;refine⟨.slice none 0 0,by rw[HE.out.2.2,lL hlt HF.out.2 yP.out];rfl,?_,HB1.out⟩;rw[HE.out.2.2,lL hlt HF.out.2 yP.out];exact fV.nil _ _ _ _ _ (fun _ h=>h.elim)
  ·go_wp2_with fail;go_ret2;have he:jH a (some ws) l=(out,0):=by rw[HE.out.2.2,List.drop_eq_nil_of_le (by omega),eZ]
   rw[he];exact⟨_,rfl,HO.out,hb⟩
end Go.Proofs.YtncnnbmeacpboaaGreatDoor
namespace Go.aa
open Go.RowKit
variable {w W W' W0:World} {l:List ae} {b cap j B C lo sz H:Nat} {cs:List Value} {T e t:TypeId} {fz:Nat×Nat} {F:Nat->Prop} {xs:List D} {f:ae} {kind n:Int} {name:Bs} {a binds bs:List aD} {want:Option (List Int)} {out:List Int} {terms:List bH} {met:List Bs} {r:List bq} {x:bq} {s:aF} {y:aC}
theorem IP(a:List aD)(t u:bH):jH a none [t,u]=if(aP a t).2≠0 then([],(aP a t).2) else if(aP a u).2≠0 then([],(aP a u).2) else([(aP a t).1,(aP a u).1],0):=by
 unfold jH;rw[eZ];split
 ·rfl
 ·rw[if_neg (by simp[jJ]),eZ];split
  ·rfl
  ·rw[if_neg (by simp[jJ]),eZ];rfl
theorem EI(a:List aD)(kind:Int)(t u:bH):(jH a (some [(gz kind).1,(gz kind).2]) [t,u]).2=gJ a kind t u:=by
 unfold jH gJ;rw[eZ];by_cases h1:(aP a t).2≠0
 ·rw[if_pos h1,if_pos h1]
 ·rw[if_neg h1,if_neg h1];by_cases h2:(aP a t).1≠(gz kind).1
  ·rw[if_pos (by unfold jJ;simp;exact fun h=>h2 h.symm),if_pos h2]
  ·rw[if_neg (by unfold jJ;simp at h2 ⊢;exact h2.symm),if_neg h2,eZ];by_cases h3:(aP a u).2≠0
   ·rw[if_pos h3,if_pos h3]
   ·rw[if_neg h3,if_neg h3];by_cases h4:(aP a u).1≠(gz kind).2
    ·rw[if_pos (by unfold jJ;simp;exact fun h=>h4 h.symm),if_pos h4]
    ·rw[if_neg (by unfold jJ;simp at h4 ⊢;exact h4.symm),if_neg h4,eZ]
theorem mo(h:aH (.mk kind name n terms binds l)=true)(hk:bZ kind=true):∃t u,terms=[t,u]/\(∀x∈terms,1<=x.kind/\x.kind<=7):=by
 rw[jD,Bool.and_eq_true] at h;have h2:=h.2;split at h2
 ·cases h2
 ·rw[Bool.and_eq_true,decide_eq_true_eq] at h2
  match terms,h2.1 with
  |[t,u],_=>
   refine⟨t,u,rfl,fun x hx=>?_⟩;have:=List.all_eq_true.1 h2.2 x hx;rw[Bool.and_eq_true] at this;have h3:=this.1;unfold aA at h3;split at h3
   ·rename_i he;omega
   ·simp only[Bool.and_eq_true,decide_eq_true_eq] at h3;omega
theorem qJ(h:aH (.mk kind name n terms binds l)=true)(hk:bZ kind=false):terms=[]/\binds.length<=6:=by
 rw[jD,Bool.and_eq_true,ll] at h;have h1:=h.1;simp only[hk,Bool.or_false,Bool.and_eq_true,List.isEmpty_iff] at h1;refine⟨h1.1.1.1.2,?_⟩;have h2:=h.2;split at h2
 ·cases h2
 ·rw[if_neg (by rw[hk];simp)] at h2;cases hq:cZ kind
  ·rw[hq] at h1;have:=h1.1.1.2;simp at this;subst this;simp
  ·rw[if_pos hq] at h2;simp only[Bool.and_eq_true,decide_eq_true_eq] at h2;exact h2.1.1.2
end Go.aa
namespace Go.Proofs.YtncnnbmeacpboaaGreatDoor
open Go.RowKit Go.aa
variable {w W W' W0:World} {l:List ae} {b cap j B C lo sz H:Nat} {cs:List Value} {T e t:TypeId} {fz:Nat×Nat} {F:Nat->Prop} {xs:List D} {f:ae} {kind n:Int} {name:Bs} {a binds bs:List aD} {want:Option (List Int)} {out:List Int} {terms:List bH} {met:List Bs} {r:List bq} {x:bq} {s:aF} {y:aC}
theorem Ke(a:Option Addr)(n cap:Nat)(hn:n<=cap)(hc:cap<=maxLen)(w:World):Calls Tryz.prog 153 #[.slice a n cap] w fun e w'=>e=.returned (.slice a n n)/\w=w':=by
 go_enter Tryz.func153,Tryz.ntmps153;go_wp2_with fail;go_ret;exact⟨rfl,rfl⟩
theorem Jc(a:List aD)(x:aK)(kind:Int)(name:Bs)(n:Int)(terms:List bH)(binds:List aD)(fl:List ae)(y:aC)(w:World)(hx:aj w (·<w.heap.size) (a.map aD.toD) x)(hy:aj w (·<w.heap.size) (terms.map bH.toD) y.t)(hl:a.length<=2000000)(hf:aH (.mk kind name n terms binds fl)=true)(hk:3<=kind/\kind<=8)(hg:GG w):
  Calls Tryz.prog 115 #[.slice x.a a.length x.cap,gB (.mk kind name n terms binds fl,y)] w fun e w'=>e=.returned (.int .i64 (eH a (.mk kind name n terms binds fl)))/\Below w.heap.size w w':=by
 have hak:bZ kind=true:=by unfold bZ;simp;omega
 obtain⟨t,u,ht,htk⟩:=mo hf hak;have cz:Below w.heap.size w (w.alloc (.cells (y.cells (.mk kind name n terms binds fl)).toArray 64)):=(Below.refl _ _).alloc (Nat.le_refl _) _;obtain⟨k,hkk⟩:∃k:Nat,(k:Int)=kind:=⟨kind.toNat,by omega⟩;have hwf:eH a (.mk kind name n terms binds fl)=gJ a kind t u:=by rw[ht,sj,if_neg (by omega)]
 subst ht;have hss:=fun(W:World) (hW:Below w.heap.size w W)=>(by
  have N8:=(hg.below hW).asks k (by omega);rw[hkk] at N8;have:=EJ a x [t,u] y.t [(gz kind).1,(gz kind).2] 0 (k*2) 2 W (hx.later hW hW.size) (hy.later hW hW.size) hl (by simp) htk rfl (World.block_lt_of_cell? _ _ N8.1) (fun i hi=>by
   match i,hi with
   |0,_=>exact N8.1
   |1,_=>exact N8.2) (hg.below hW)
  rw[EI] at this;exact this:Calls Tryz.prog 150 #[.slice y.t.a 2 y.t.cap,.func (.func 151) #[.slice x.a a.length x.cap] #[],.slice (some ⟨0,k*2,none⟩) 2 2] W fun e w'=>∃v,e=.returned (.tuple #[v,.int .i64 (gJ a kind t u)])/\fV w' W.heap.size (fun _=>False) 3 1 v (bD (jH a (some [(gz kind).1,(gz kind).2]) [t,u]).1)/\Below W.heap.size W w')
 rw[hwf];have Jt:=Lh hss;have HB:=Lh cz;have Od:∀(fn:Fn) (first cap:Array Value) (w:World),(Instr.makeFunc fn first cap).run Tryz.prog w=.ok (.func fn first cap) w:=fun _ _ _ _=>rfl;clear hss hwf hx hy hg cz hak hf htk;generalize gJ a kind t u=res at Jt ⊢;have h9:(kind==9)=false:=by simp;omega
 have hk9:(kind:Int)<9:=by omega
 subst hkk;simp only[gB,aC.cells,aK.val,ae.kind,ae.name,ae.n,ae.terms,ae.binds,ae.l,List.length_cons,List.length_nil,Nat.zero_add,Nat.reduceAdd] at*;go_enter Tryz.func115,Tryz.ntmps115;go_wp2_with fail;have Vm:=Lh (Jt.out _ HB.out.drew);go_region_with (go_at_call 150;refine Vm.out.mono ?_;rintro e w' ⟨v,rfl,hon,hb⟩;have HW:=Lh hb;clear hb hon)
 all_goals
  go_wp2_with fail;go_ret;exact⟨rfl,HB.out.drew.trans (HW.out.mono (by simp))⟩
end Go.Proofs.YtncnnbmeacpboaaGreatDoor
namespace Go.aa
open Go.RowKit
variable {w W W' W0:World} {l:List ae} {b cap j B C lo sz H:Nat} {cs:List Value} {T e t:TypeId} {fz:Nat×Nat} {F:Nat->Prop} {xs:List D} {f:ae} {kind n:Int} {name:Bs} {a binds bs:List aD} {want:Option (List Int)} {out:List Int} {terms:List bH} {met:List Bs} {r:List bq} {x:bq} {s:aF} {y:aC}
def OJ(s:Int)(name:Bs):Bool:=([8,2,6]:List Int).contains s||name==[61]||name==[33,61]
theorem Du{t u:bH}(h1:(aP a t).2=0)(h2:(aP a u).2=0){s1 s2:Int}(e1:(aP a t).1=s1)(e2:(aP a u).1=s2):gI a name t u=if(s1 !=s2||!(OJ s1 name))=true then 80 else 0:=by
 unfold gI OJ;rw[if_neg (by rw[h1];simp),if_neg (by rw[h2];simp),e1,e2];congr 1;simp;constructor
 ·rintro(h|h)
  ·exact .inl h
  ·exact .inr ⟨⟨⟨h.1,h.2.1,h.2.2.1⟩,h.2.2.2.1⟩,h.2.2.2.2⟩
 ·rintro(h|⟨⟨⟨a,b,c⟩,d⟩,e⟩)
  ·exact .inl h
  ·exact .inr ⟨a,b,c,d,e⟩
end Go.aa
namespace Go.Proofs.YtncnnbmeacpboaaGreatDoor
open Go.RowKit Go.aa
variable {w W W' W0:World} {l:List ae} {b cap j B C lo sz H:Nat} {cs:List Value} {T e t:TypeId} {fz:Nat×Nat} {F:Nat->Prop} {xs:List D} {f:ae} {kind n:Int} {name:Bs} {a binds bs:List aD} {want:Option (List Int)} {out:List Int} {terms:List bH} {met:List Bs} {r:List bq} {x:bq} {s:aF} {y:aC}
theorem MR(a:List aD)(x:aK)(name:Bs)(n:Int)(terms:List bH)(binds:List aD)(fl:List ae)(y:aC)(w:World)(hx:aj w (·<w.heap.size) (a.map aD.toD) x)(hy:aj w (·<w.heap.size) (terms.map bH.toD) y.t)(hl:a.length<=2000000)(hf:aH (.mk 9 name n terms binds fl)=true)(hg:GG w):
  Calls Tryz.prog 115 #[.slice x.a a.length x.cap,gB (.mk 9 name n terms binds fl,y)] w fun e w'=>e=.returned (.int .i64 (eH a (.mk 9 name n terms binds fl)))/\Below w.heap.size w w':=by
 obtain⟨t,u,ht,htk⟩:=mo hf (by decide);have cz:Below w.heap.size w (w.alloc (.cells (y.cells (.mk 9 name n terms binds fl)).toArray 64)):=(Below.refl _ _).alloc (Nat.le_refl _) _;have hwf:eH a (.mk 9 name n terms binds fl)=gI a name t u:=by rw[ht,sj,if_pos rfl]
 subst ht;have hss:=IM a x [t,u] y.t _ (hx.later cz cz.size) (hy.later cz cz.size) hl (by simp) htk (hg.below cz);rw[IP] at hss;obtain⟨s1,hs1⟩:∃s1,(aP a t).1=s1:=⟨_,rfl⟩;obtain⟨s2,hs2⟩:∃s2,(aP a u).1=s2:=⟨_,rfl⟩;obtain⟨c1,hc1⟩:∃c1,(aP a t).2=c1:=⟨_,rfl⟩;obtain⟨c2,hc2⟩:∃c2,(aP a u).2=c2:=⟨_,rfl⟩;rw[hs1,hs2,hc1,hc2] at hss;have HB:=Lh cz;have Od:∀(fn:Fn) (first cap:Array Value) (w:World),(Instr.makeFunc fn first cap).run Tryz.prog w=.ok (.func fn first cap) w:=fun _ _ _ _=>rfl;rw[hwf];have HG:=Lh hg;clear hwf hx hy hg hf htk;simp only[gB,aC.cells,aK.val,ae.kind,ae.name,ae.n,ae.terms,ae.binds,ae.l,List.length_cons,List.length_nil,Nat.zero_add,Nat.reduceAdd] at hss cz HB ⊢;by_cases h1:c1≠0
 ·rw[if_pos h1] at hss;have he:gI a name t u=c1:=by unfold gI;rw[hc1,if_pos h1]
  rw[he];have Jt:=Lh hss;have h1':(c1 !=0)=true:=by simpa using h1
  have HD:=Lh h1;clear hss cz he hs1 hs2 hc1 hc2 h1;go_enter Tryz.func115,Tryz.ntmps115;go_wp2_with fail;refine Jt.out.mono ?_;rintro e w1 ⟨v,rfl,hon,hb⟩;have HW:=Lh hb;clear hb hon;go_wp2_with fail;go_ret;exact⟨rfl,HB.out.trans (HW.out.mono HB.out.size)⟩
 ·rw[if_neg h1] at hss;have h1z:c1=0:=by omega
  by_cases h2:c2≠0
  ·rw[if_pos h2] at hss;have he:gI a name t u=c2:=by unfold gI;rw[hc1,if_neg h1,hc2,if_pos h2]
   rw[he];have Jt:=Lh hss;have h2':(c2 !=0)=true:=by simpa using h2
   clear hss cz he hs1 hs2 hc1 hc2 h1 h1z h2;go_enter Tryz.func115,Tryz.ntmps115;go_wp2_with fail;refine Jt.out.mono ?_;rintro e w1 ⟨v,rfl,hon,hb⟩;have HW:=Lh hb;clear hb hon;go_wp2_with fail;go_ret;exact⟨rfl,HB.out.trans (HW.out.mono HB.out.size)⟩
  ·rw[if_neg h2] at hss;have he:=Du (name:=name) (hc1.trans h1z) (hc2.trans (by omega)) hs1 hs2;rw[he];have Jt:=Lh hss;obtain⟨od,hod⟩:∃od,od=OJ s1 name:=⟨_,rfl⟩;rw[<-hod];have HO:=Lh hod;obtain⟨rv,Wj⟩:∃rv,rv=(if(s1 !=s2||!od)=true then(80:Int) else 0):=⟨_,rfl⟩;rw[<-Wj];have Uk:=Lh Wj;clear Wj;clear hss cz he hs1 hs2 hc1 hc2 h1 h1z h2 hod;go_enter Tryz.func115,Tryz.ntmps115;go_wp2_with fail;refine Jt.out.mono ?_;rintro e w1 ⟨v,rfl,hon,hb⟩;have HW:=Lh (HB.out.trans (hb.mono HB.out.size));obtain⟨x0,rfl,hx0⟩:=hon.sl (by rw[iw];simp);obtain⟨k1,_,_,_,k5⟩:=hx0.ints;obtain⟨ka,_⟩:=k1 (by simp);have q0:=k5 0 (by simp);have q1:=k5 1 (by simp);simp only[List.getElem_cons_zero,List.getElem_cons_succ,Nat.add_zero] at q0 q1;simp only[iv,List.length_cons,List.length_nil,Nat.zero_add,Nat.reduceAdd,aK.val];rw[ka];have hbx:w1.heap[w.heap.size]?=some (.cells #[.int .i64 9,.string ⟨name.toArray⟩,.int .i64 n,.slice y.t.a 2 y.t.cap,.slice y.b.a binds.length y.b.cap,.slice y.l.a fl.length y.l.cap] 64 (0,0)):=boxed (B:=w.heap.size+1) (by simpa using hb) (by omega);have b1:w1.cell? ⟨w.heap.size,1,none⟩=some (.string ⟨name.toArray⟩):=cH hbx rfl;clear hb hon hx0 k1 k5 ka hbx;have hc:=xk [8,2,6] ⟨some ⟨w1.heap.size,0,none⟩,w1.heap.size,0,3⟩ s1 (w1.alloc (.cells #[.int .i64 8,.int .i64 2,.int .i64 6] 3))
    (aj.lit (cs:=[.int .i64 8,.int .i64 2,.int .i64 6]) (boxed (B:=w1.heap.size+1) (Below.refl _ _) (by omega)) (au.ints (xs:=[8,2,6]) (fun z hz=>by simp at hz;omega)) (by simp) (Nat.le_refl _) (by decide)) (by simp)
   have QS:=HO.out;unfold OJ at QS;clear HO;generalize ([8,2,6]:List Int).contains s1=c0 at hc QS;have HC:=Lh hc;have zY:=Lh (HW.out.alloc HW.out.size (.cells #[.int .i64 8,.int .i64 2,.int .i64 6] 3));have b1':=gH (x:=.cells #[.int .i64 8,.int .i64 2,.int .i64 6] 3) b1;have hcase:(c0=true/\od=true)∨(c0=false/\name=[61]/\od=true)∨(c0=false/\name=[33,61]/\od=true)∨(c0=false/\(name==[61])=false/\(name==[33,61])=false/\od=false):=by
    cases c0
    ·by_cases h1:name=[61]
     ·exact .inr (.inl ⟨rfl,h1,by rw[QS,h1];rfl⟩)
     ·by_cases h2:name=[33,61]
      ·exact .inr (.inr (.inl ⟨rfl,h2,by rw[QS,h2];rfl⟩))
      ·have e1:(name==[61])=false:=by simpa using h1
       have e2:(name==[33,61])=false:=by simpa using h2
       exact .inr (.inr (.inr ⟨rfl,e1,e2,by rw[QS,e1,e2];rfl⟩))
    ·exact .inl ⟨rfl,by rw[QS];rfl⟩
   have hd:(s1 !=s2)=true∨(s1 !=s2)=false:=by cases (s1 !=s2)<;>simp
   clear hc QS;rcases hcase with⟨rfl,rfl⟩|⟨rfl,rfl,rfl⟩|⟨rfl,rfl,rfl⟩|⟨rfl,hn1,hn2,rfl⟩
   all_goals
    rcases hd with hd|hd
    all_goals
     have YW:=Lh hd
     try(obtain rfl:=int_eq hd;clear hd)
     go_wp2_with fail;refine HC.out.mono ?_;rintro e w2 ⟨rfl,rfl⟩;go_wp2_with fail;go_quiet (fail);go_wp2_with fail;go_ret;exact⟨aQ (by rw[Uk.out,YW.out];rfl),zY.out.trans ⟨rfl,rfl,rfl,Nat.le_refl _,fun _ _=>rfl⟩⟩
end Go.Proofs.YtncnnbmeacpboaaGreatDoor
namespace Go.aa
open Go.RowKit
variable {w W W' W0:World} {l:List ae} {b cap j B C lo sz H:Nat} {cs:List Value} {T e t:TypeId} {fz:Nat×Nat} {F:Nat->Prop} {xs:List D} {f:ae} {kind n:Int} {name:Bs} {a binds bs:List aD} {want:Option (List Int)} {out:List Int} {terms:List bH} {met:List Bs} {r:List bq} {x:bq} {s:aF} {y:aC}
theorem qB{b:aD}{r l:List aD}(hl:l=b::r){i:Nat}(h:dF bs b.name=some i):dE bs l=none:=by
 subst hl;rw[dE,if_pos (by rw[h];rfl)]
theorem qA{b:aD}{r l:List aD}(hl:l=b::r)(h:dF bs b.name=none):dE bs l=dE (bs++[b]) r:=by
 subst hl;rw[dE,if_neg (by rw[h];simp)]
theorem yK{r:List ae}(hl:l=f::r){c:Int}(h:eH bs f=c)(hc:c≠0):iX bs l=c:=by
 subst hl;rw[iX,h,if_pos hc]
theorem wN{r:List ae}(hl:l=f::r)(h:eH bs f=0):iX bs l=iX bs r:=by
 subst hl;rw[iX,h,if_neg (by simp)]
theorem sS{fl:List ae}(h:(aJ (.mk kind name n terms binds fl)).all aH=true)(j:Nat)(hj:j<fl.length):(aJ fl[j]).all aH=true:=by
 rw[aJ,List.all_cons,Bool.and_eq_true] at h;have:∀(l:List ae),(dU l).all aH=true->∀g∈l,(aJ g).all aH=true:=by
  intro l
  induction l with
  |nil=>intro _ g hg;cases hg
  |cons x r ih=>
   intro hl g hg;rw[dU,List.all_append,Bool.and_eq_true] at hl;rcases List.mem_cons.1 hg with rfl|hg
   ·exact hl.1
   ·exact ih hl.2 g hg
 exact this fl h.2 _ (List.getElem_mem hj)
end Go.aa
namespace Go.Proofs.YtncnnbmeacpboaaGreatDoor
open Go.RowKit Go.aa
variable {w W W' W0:World} {l:List ae} {b cap j B C lo sz H:Nat} {cs:List Value} {T e t:TypeId} {fz:Nat×Nat} {F:Nat->Prop} {xs:List D} {f:ae} {kind n:Int} {name:Bs} {a binds bs:List aD} {want:Option (List Int)} {out:List Int} {terms:List bH} {met:List Bs} {r:List bq} {x:bq} {s:aF} {y:aC}
theorem E8(kind:Int)(name:Bs)(n:Int)(binds:List aD)(fl:List ae)(ih:∀(j:Nat) (hj:j<fl.length) (a:List aD) (x:aK) (y:aC) (w:World),aj w (·<w.heap.size) (a.map aD.toD) x->aB w (·<w.heap.size) fl[j] y->a.length+6*fl[j].depth<=1900000->GG w->
   Calls Tryz.prog 115 #[.slice x.a a.length x.cap,gB (fl[j],y)] w fun e w'=>e=.returned (.int .i64 (eH a fl[j]))/\Below w.heap.size w w')(a:List aD)(x:aK)(y:aC)(w:World)(hx:aj w (·<w.heap.size) (a.map aD.toD) x)(hy:aB w (·<w.heap.size) (.mk kind name n [] binds fl) y)(hl:a.length+6*(bQ fl+1)<=1900000)(hb6:binds.length<=6)(hfl:fl.length<=2000000)(h9:(kind==9)=false)(hg:GG w):
  Calls Tryz.prog 115 #[.slice x.a a.length x.cap,gB (.mk kind name n [] binds fl,y)] w fun e w'=>e=.returned (.int .i64 (eH a (.mk kind name n [] binds fl)))/\Below w.heap.size w w':=by
 have cz:Below w.heap.size w (w.alloc (.cells (y.cells (.mk kind name n [] binds fl)).toArray 64)):=(Below.refl _ _).alloc (Nat.le_refl _) _;have hcap:a.length<=x.cap:=by have:=hx.le;simpa using this
 have hcm:=hx.max;obtain⟨g1,_,_,g4,g5⟩:=hy.binds.flat aD.bI;have hnil:x.a=none->a.map aD.toD=[]:=fun hn=>by
  cases ha:a with
  |nil=>rfl
  |cons b r=>have:=(hx.at_ (by rw[ha];simp)).1;rw[this] at hn;cases hn
 have hsl:aj w (·<w.heap.size) (a.map aD.toD) ⟨x.a,x.b,x.o,a.length⟩:=⟨hx.at_,by simp,by show a.length<=maxLen;omega,hx.row⟩;have hon:fV (w.alloc (.cells (y.cells (.mk kind name n [] binds fl)).toArray 64)) (w.heap.size+1) (fun _=>False) 94 2 (.slice x.a a.length a.length) (a.map aD.toD):=
  .inl ⟨⟨x.a,x.b,x.o,a.length⟩,by simp,by simp,(hsl.agree (ag cz)).mono (fun k hk=>Nat.lt_succ_of_lt hk),hnil,fG aD.bI a,by simp,fun _ h=>h.elim⟩
 have HC:=Lh g4;have F9:=Lh g5;have zZ:Hid (∀(j:Nat) (hj:j<fl.length),∃y1:aC,aB w (·<w.heap.size) fl[j] y1/\ay w y.l.b (y.l.o+j*6) (y1.cells fl[j])):=Lh (fun(j:Nat) (hj:j<fl.length)=>hy.l.qK j hj);have Di:=Lh hy.l.at_;have Aa:=Lh ih;have HG:=Lh hg;have HW:=Lh (oM a kind name n binds fl);have HB:=Lh cz;have lS:=Lh hon;have P6:=Lh g1;obtain⟨i0,hi,hz0,hz1,hz2⟩:=info_parts FE;clear hx hy g1 g4 g5 ih hg cz hon hnil hsl;simp only[gB,aC.cells,aK.val,ae.kind,ae.name,ae.n,ae.terms,ae.binds,ae.l,List.length_nil] at HC F9 P6 Di HB lS ⊢;generalize eH a (.mk kind name n [] binds fl)=res at HW ⊢;go_enter Tryz.func115,Tryz.ntmps115;go_wp2_with (go_at_call 153;refine(Ke _ _ _ hcap hcm _).mono ?_;rintro e w' ⟨rfl,rfl⟩);go_loopw [10,80] (fun v i wr=>∃(j:Nat) (bs:List aD),j<=binds.length/\i=.int .i64 j/\Below w.heap.size w wr/\Hid (wr.heap[w.heap.size]?=some (.cells #[.int .i64 kind,.string ⟨name.toArray⟩,.int .i64 n,.slice y.t.a 0 y.t.cap,.slice y.b.a binds.length y.b.cap,.slice y.l.a fl.length y.l.cap] 64 (0,0)))/\Hid (fV wr (w.heap.size+1) (fun _=>False) 94 2 v (bs.map aD.toD))/\Hid (bs.length=a.length+j/\dE a binds=dE bs (binds.drop j))) (fun _ i _=>binds.length-(intOf i).toNat)
 case atStart=>exact⟨0,a,Nat.zero_le _,rfl,HB.out,Lh (boxed (B:=w.heap.size+1) (Below.refl _ _) (by omega)),lS,Lh ⟨rfl,rfl⟩⟩
 case round=>
  obtain⟨j,bs,hj,rfl,hb,gM,HO,HE⟩:=hrel;clear lS;obtain⟨x1,hv,hx1⟩:=HO.out.sl (by rw[bP aD.bI,List.length_map]);rw[List.length_map] at hv;subst hv;have hbl:bs.length<=1900000:=by have:=HE.out.1;omega
  have JO:=Lh hx1;clear hx1;by_cases hlt:j<binds.length
  ·obtain⟨hxa,GY⟩:=P6.out (by omega);obtain⟨q0,q1⟩:=HC.out.two j hlt rfl;have e0:=(hb.cell (p:=⟨y.b.b,y.b.o+j*2,none⟩) GY).trans q0;have e1:=(hb.cell (p:=⟨y.b.b,y.b.o+j*2+1,none⟩) GY).trans q1;have cz:Below w.heap.size w (wr.alloc (.cells #[.string ⟨binds[j].name.toArray⟩,.int .i64 binds[j].sort] 94)):=hb.alloc hb.size _;have hbr:Below wr.heap.size wr (wr.alloc (.cells #[.string ⟨binds[j].name.toArray⟩,.int .i64 binds[j].sort] 94)):=(Below.refl _ _).alloc (Nat.le_refl _) _;have yQ:=Lh (uX bs x1 binds[j].name _ (JO.out.later hbr hbr.size) (by omega));have JL:=Lh (HO.out.below hbr);have Au:=Lh (F9.out _ (List.getElem_mem hlt));have hdrop:binds.drop j=binds[j]::binds.drop (j+1):=List.drop_eq_getElem_cons hlt;have HDR:=Lh hdrop;have ni:=Lh cz;rw[hxa] at gM ⊢;clear q0 q1 cz hbr hdrop;generalize hbe:binds[j]=be at yQ JL Au HDR ni e0 e1;clear hbe;obtain⟨nm,so⟩:=be;simp only at yQ JL ni e0 e1;cases hf:dF bs nm with
   |some i=>
    have hfi:lI bs nm=i:=by unfold lI;rw[hf]
    rw[hfi] at yQ;have HR:Hid (res=82):=Lh (by rw[HW.out,HE.out.2,qB HDR.out hf]);clear hf hfi;go_wp2_with fail;refine yQ.out.mono ?_;rintro e w1 ⟨rfl,hb1⟩;have HB1:=Lh (ni.out.trans (hb1.mono ni.out.size));clear hb1;go_wp2_with fail;go_ret;exact⟨aQ HR.out.symm,HB1.out⟩
   |none=>
    have hfi:lI bs nm= -1:=by unfold lI;rw[hf]
    rw[hfi] at yQ;have HR:=Lh (HE.out.2.trans (qA HDR.out hf));clear hf hfi;go_wp2_with fail;refine yQ.out.mono ?_;rintro e w1 ⟨rfl,hb1⟩;have HB1:=Lh (ni.out.trans (hb1.mono ni.out.size));have q0:w1.cell? ⟨wr.heap.size,0,none⟩=some (.string ⟨nm.toArray⟩):=cH (boxed (B:=wr.heap.size+1) (by simpa using hb1) (by omega)) rfl;have q1:w1.cell? ⟨wr.heap.size,1,none⟩=some (.int .i64 so):=cH (boxed (B:=wr.heap.size+1) (by simpa using hb1) (by omega)) rfl;have Sc:=Lh (JL.out.below hb1);have DL:=(gS gM.out).1;have RS:=Lh ((hb1.block w.heap.size (by simp;omega)).trans ((Below.heap_alloc _ _ _ DL).trans gM.out));clear hb1;go_wp2_with (at_builtin;go_must (refine gX rfl _ _ 179 rfl 94 i0 _ 2 24 Tryz.underlying179 hi hz0 hz1 hz2 rfl (by decide) (.slice x1.a bs.length x1.cap) (bs.map aD.toD) (aD.toD ⟨nm,so⟩) [.string ⟨nm.toArray⟩,.int .i64 so] 94 rfl rfl Sc.out (au.nM (aD.bI.flat _) Au.out) (by have:=(gS RS.out).1;omega) rfl (by rw[bP aD.bI,List.length_map]) (by rw[List.length_map];unfold maxLen;omega) (by rw[List.length_map];omega) ?_);intro ao cap w5 hon hb5;have lS:=Lh (aI hon (aI (HB1.out.trans (hb5.mono (by omega))) ((hb5.block _ (by omega)).trans RS.out)));clear hon hb5);refine⟨⟨j+1,bs++[⟨nm,so⟩],by omega,by go_num,lS.out.2.1,Lh lS.out.2.2,Lh ?_,Lh ⟨by have:=HE.out.1;simp;omega,HR.out⟩⟩,by simp[intOf];omega⟩;have:=lS.out.1;rw[List.length_map] at this;simpa using this
  ·have hjb:j=binds.length:=by omega
   obtain⟨wo,rfl⟩:∃wo,wo=wr:=⟨_,rfl⟩;have HR:Hid (res=iX bs fl):=Lh (by rw[HW.out,HE.out.2,hjb,List.drop_length,dE]);have VT:bs.length+6*bQ fl<=1900000:=by have:=HE.out.1;omega
   have lX:=Lh hb;have Qo:=Lh (fun(W:World) (hW:Below wo.heap.size wo W)=>JO.out.later hW hW.size);have b5:wo.cell? ⟨w.heap.size,5,none⟩=some (.slice y.l.a fl.length y.l.cap):=cH gM.out rfl;clear HC F9 P6 HO HE HB gM hjb;go_wp2_with fail;go_loopw [97] (fun i wr=>∃j2:Nat,j2<=fl.length/\i=.int .i64 j2/\Below wo.heap.size wo wr/\Hid (iX bs fl=iX bs (fl.drop j2))) (fun i _=>fl.length-(intOf i).toNat)
   case atStart=>exact⟨0,Nat.zero_le _,rfl,Below.refl _ _,Lh rfl⟩
   case round=>
    obtain⟨j2,hj2,rfl,hb2,HE2⟩:=hrel;by_cases hlt2:j2<fl.length
    ·obtain⟨y1,hy1,hy2⟩:=zZ.out j2 hlt2;obtain⟨hxa,kg⟩:=Di.out (by rw[List.length_map];omega);have hbw:Below w.heap.size w wr:=lX.out.trans (hb2.mono lX.out.size);obtain⟨e0,e1,e2,e3,e4,e5⟩:=(hy2.agree (ag hbw) kg).six;have hbr:Below wo.heap.size wo (wr.alloc (.cells (y1.cells fl[j2]).toArray 64)):=hb2.alloc hb2.size _;have hbw2:Below w.heap.size w (wr.alloc (.cells (y1.cells fl[j2]).toArray 64)):=hbw.alloc hbw.size _;have hdp:=jB fl j2 hlt2;have fZ:=Lh (Aa.out j2 hlt2 bs x1 y1 (wr.alloc (.cells (y1.cells fl[j2]).toArray 64)) (Qo.out _ hbr) (hy1.later hbw2 hbw2.size) (by omega) (HG.out.below hbw2));have qo:=Lh hbr;have hdrop:fl.drop j2=fl[j2]::fl.drop (j2+1):=List.drop_eq_getElem_cons hlt2;have HDR:=Lh hdrop;obtain⟨c,hc⟩:∃c,eH bs fl[j2]=c:=⟨_,rfl⟩;rw[hc] at fZ;have uf:=Lh hc;rw[hxa];clear hy1 hy2 kg hbw hbr hbw2 hdrop hc hdp;generalize fl[j2]=fe at fZ qo HDR uf e0 e1 e2 e3 e4 e5;obtain⟨mU,mV,n1,jX,jR,Jv⟩:=fe;simp only[gB,aC.cells,aK.val,ae.kind,ae.name,ae.n,ae.terms,ae.binds,ae.l] at fZ qo e0 e1 e2 e3 e4 e5;have hcd:(c≠0/\(c !=0)=true)∨(c=0/\(c !=0)=false):=by by_cases h:c=0<;>simp[h]
     rcases hcd with⟨d1,d2⟩|⟨d1,d2⟩
     ·have HD:=Lh (HR.out.trans (HE2.out.trans (yK HDR.out uf.out d1)));clear d1;go_wp2_with fail;refine fZ.out.mono ?_;rintro e w1 ⟨rfl,hb1⟩;have HB1:=Lh (lX.out.trans ((qo.out.trans (hb1.mono qo.out.size)).mono lX.out.size));clear hb1;go_wp2_with fail;go_ret;exact⟨aQ HD.out.symm,HB1.out⟩
     ·subst d1;clear d2;have HD:=Lh (HE2.out.trans (wN HDR.out uf.out));go_wp2_with fail;refine fZ.out.mono ?_;rintro e w1 ⟨rfl,hb1⟩;have HB1:=Lh (qo.out.trans (hb1.mono qo.out.size));clear hb1;go_wp2_with fail;exact⟨⟨j2+1,by omega,by go_num,HB1.out,HD⟩,by simp[intOf];omega⟩
    ·go_wp2_with fail;go_ret;have hjl:j2=fl.length:=by omega
     exact⟨aQ (by rw[HR.out,HE2.out,hjl,List.drop_length,iX]),lX.out.trans (hb2.mono lX.out.size)⟩
theorem Gu(m:Nat):∀(f:ae) (a:List aD) (x:aK) (y:aC) (w:World),f.size<=m->f.size<=2000000->(aJ f).all aH=true->aj w (·<w.heap.size) (a.map aD.toD) x->aB w (·<w.heap.size) f y->a.length+6*f.depth<=1900000->GG w->
  Calls Tryz.prog 115 #[.slice x.a a.length x.cap,gB (f,y)] w fun e w'=>e=.returned (.int .i64 (eH a f))/\Below w.heap.size w w':=by
 induction m with
 |zero=>intro f _ _ _ _ h;have:=f.size_pos;omega
 |succ m ih=>
  rintro⟨kind,name,n,terms,binds,fl⟩ a x y w hm hs hf hx hy hd hg;have hf1:aH (.mk kind name n terms binds fl)=true:=by
   rw[aJ,List.all_cons,Bool.and_eq_true] at hf;exact hf.1
  rw[ae.size] at hm hs;rw[ae.depth] at hd;have hll:=di fl;cases hk:bZ kind
  ·obtain⟨ht,hb6⟩:=qJ hf1 hk;subst ht;have h9:(kind==9)=false:=by
    unfold bZ at hk;simp;intro h;subst h;simp at hk
   exact E8 kind name n binds fl (fun j hj a' x' y' w' h1 h2 h3 h4=>ih fl[j] a' x' y' w' (by have:=aT fl j hj;omega) (by have:=aT fl j hj;omega) (sS hf j hj) h1 h2 h3 h4) a x y w hx hy hd hb6 (by omega) h9 hg
  ·by_cases h9:kind=9
   ·subst h9;exact MR a x name n terms binds fl y w hx hy.terms (by omega) hf1 hg
   ·exact Jc a x kind name n terms binds fl y w hx hy.terms (by omega) hf1 (by unfold bZ at hk;simp at hk;omega) hg
end Go.Proofs.YtncnnbmeacpboaaGreatDoor
namespace Go.aa
open Go.RowKit
variable {w W W' W0:World} {l:List ae} {b cap j B C lo sz H:Nat} {cs:List Value} {T e t:TypeId} {fz:Nat×Nat} {F:Nat->Prop} {xs:List D} {f:ae} {kind n:Int} {name:Bs} {a binds bs:List aD} {want:Option (List Int)} {out:List Int} {terms:List bH} {met:List Bs} {r:List bq} {x:bq} {s:aF} {y:aC}
theorem aj.lt{x:aK}(h:aj w (·<B) xs x)(hC:B<=C):aj w (·<C) xs x:=h.mono (fun _ hk=>Nat.lt_of_lt_of_le hk hC)
structure Qs (t:bH):Prop where
 kind:ku t.kind
 name:t.name.length<=4000000
 n:ku t.n
theorem bH.fine{t:bH}(h:Qs t):t.toD.fine:=⟨h.kind.wf,by rw[D.fine,aZ];have:=h.name;unfold maxLen;omega,h.n.wf,trivial⟩
end Go.aa
namespace Go.Proofs.YtncnnbmeacpboaaGreatDoor
open Go.RowKit Go.aa
variable {w W W' W0:World} {l:List ae} {b cap j B C lo sz H:Nat} {cs:List Value} {T e t:TypeId} {fz:Nat×Nat} {F:Nat->Prop} {xs:List D} {f:ae} {kind n:Int} {name:Bs} {a binds bs:List aD} {want:Option (List Int)} {out:List Int} {terms:List bH} {met:List Bs} {r:List bq} {x:bq} {s:aF} {y:aC}
structure gF (r:bq):Prop where
 name:r.name.length<=4000000
 len:r.each.length<=1500000
 each:∀b∈r.each,b.name.length<=4000000
 body:gZ r.body
theorem I9(r:bq)(y:iG)(w:World)(hy:gV w (·<w.heap.size) r y)(hf:gF r)(hg:GG w):
  Calls Tryz.prog 72 #[.agg (y.cells r).toArray] w fun e w'=>e=.returned (.int .i64 (dK r))/\Below w.heap.size w w':=by
 have cz:Below w.heap.size w (w.alloc (.cells (y.cells r).toArray 66)):=(Below.refl _ _).alloc (Nat.le_refl _) _;have hbx:(w.alloc (.cells (y.cells r).toArray 66)).heap[w.heap.size]?=some (.cells (y.cells r).toArray 66 (0,0)):=boxed (B:=w.heap.size+1) (Below.refl _ _) (by omega);have R3:=Lh (fun(W:World) (hW:Below w.heap.size w W)=>og ⟨r.name,1⟩ W ⟨hf.name,(show ku 1 from kH (by decide) (by decide))⟩ (hg.below hW));have Ns:=Lh (fun(W:World) (hW:Below w.heap.size w W)=>Km r.each y.each W (hy.each.later hW hW.size) (by have:=hf.len;omega) hf.each (hg.below hW));have HM:=Lh (fun(W:World) (hW:Below w.heap.size w W)=>JX r.each y.each W (hy.each.later hW hW.size) (by have:=hf.len;omega) hf.each (hg.below hW));have Dh:=Lh (fun(W:World) (hW:Below w.heap.size w W)=>mi r.body y.body W (hy.body.later hW hW.size) hf.body (hg.below hW));have Gn:=Lh (fun(W:World) (hW:Below w.heap.size w W) (h:aM r.body=0)=>Gu r.body.size r.body r.each y.each y.body W (Nat.le_refl _) hf.body.size (iH.1 h).1 (hy.each.later hW hW.size) (hy.body.later hW hW.size) (by have:=(iH.1 h).2.2;have:=hf.len;omega) (hg.below hW));have HR:Hid (dK r=if aL ⟨r.name,1⟩=false∨r.weight<(if r.hard then 0 else 1)∨(if r.hard then 0 else 1000)<r.weight∨6<r.each.length∨r.each.all aL=false then 1
  else if aM r.body≠0 then aM r.body else if kZ r.each=false then 82 else eH r.each r.body):=Lh rfl
 have HB:=Lh (aI cz hbx);clear hy cz hbx hg hf;generalize dK r=res at HR ⊢;obtain⟨name,hard,weight,each,⟨kind,fname,n,terms,binds,fl⟩⟩:=r;obtain⟨ye,yb⟩:=y;simp only at R3 Ns HM Dh Gn HR;generalize aL ⟨name,1⟩=bo at R3 HR;generalize each.all aL=eb at Ns HR;generalize kZ each=my at HM HR;generalize aM (.mk kind fname n terms binds fl)=fc at Dh Gn HR;generalize eH each (.mk kind fname n terms binds fl)=wk at Gn HR;simp only[gB,iG.cells,aC.cells,aK.val,ae.kind,ae.name,ae.n,ae.terms,ae.binds,ae.l] at HB Dh Gn HM Ns R3 ⊢;cases hard
 ·
  have hw1:((weight:Int)<1/\weight<1)∨(decide ((weight:Int)<1)=false/\¬weight<1):=by
   by_cases h:weight<1
   ·exact .inl ⟨h,h⟩
   ·exact .inr ⟨decide_eq_false h,h⟩
  have hw2:((1000:Int)<weight/\1000<weight)∨(decide ((1000:Int)<weight)=false/\¬1000<weight):=by
   by_cases h:1000<weight
   ·exact .inl ⟨h,h⟩
   ·exact .inr ⟨decide_eq_false h,h⟩
  have hw3:((6:Int)<(each.length:Int)/\6<each.length)∨(decide ((6:Int)<(each.length:Int))=false/\¬6<each.length):=by
   by_cases h:6<each.length
   ·exact .inl ⟨by omega,h⟩
   ·exact .inr ⟨decide_eq_false (by omega),h⟩
  have HR2:Hid (res=if bo=false∨weight<1∨1000<weight∨6<each.length∨eb=false then 1 else if fc≠0 then fc else if my=false then 82 else wk):=Lh (by rw[HR.out];rfl);clear HR;go_enter Tryz.func72,Tryz.ntmps72;go_wp2_with fail;refine(R3.out _ HB.out.1).mono ?_;rintro e w1 ⟨rfl,hb1⟩;have qN:=(hb1.block w.heap.size (by simp)).trans HB.out.2;have HB1:=Lh (aI (HB.out.1.trans (hb1.mono HB.out.1.size)) qN);clear hb1;cases bo
  ·clear qN;go_wp2_with fail;go_ret;exact⟨aQ (by rw[HR2.out,if_pos (.inl (by first|rfl|trivial))]),HB1.out.1⟩
  ·have b2:w1.cell? ⟨w.heap.size,2,none⟩=some (.int .i64 weight):=cH qN rfl;have b3:w1.cell? ⟨w.heap.size,3,none⟩=some (.slice ye.a each.length ye.cap):=cH qN rfl;clear qN;rcases hw1 with⟨u1,v1⟩|⟨u1,v1⟩
   ·have HV:=Lh v1;clear v1;go_wp2_with fail;go_ret;exact⟨aQ (by rw[HR2.out,if_pos (.inr (.inl HV.out))]),HB1.out.1⟩
   rcases hw2 with⟨u2,v2⟩|⟨u2,v2⟩
   ·have HV:=Lh v2;clear v1 v2;go_wp2_with fail;go_ret;exact⟨aQ (by rw[HR2.out,if_pos (.inr (.inr (.inl HV.out)))]),HB1.out.1⟩
   rcases hw3 with⟨u3,v3⟩|⟨u3,v3⟩
   ·have HV:=Lh v3;clear v1 v2 v3;go_wp2_with fail;go_ret;exact⟨aQ (by rw[HR2.out,if_pos (.inr (.inr (.inr (.inl HV.out))))]),HB1.out.1⟩
   have HV:=Lh (aI v1 (aI v2 v3));clear v1 v2 v3;go_wp2_with fail;refine(Ns.out _ HB1.out.1).mono ?_;rintro e w2 ⟨rfl,hb2⟩;have lC:=(hb2.block w.heap.size ((gS HB1.out.2).1)).trans HB1.out.2;have HB2:=Lh (aI (HB1.out.1.trans (hb2.mono HB1.out.1.size)) lC);clear hb2 b2 b3;cases eb
   ·clear lC;go_wp2_with fail;go_ret;exact⟨aQ (by rw[HR2.out,if_pos (.inr (.inr (.inr (.inr (by first|rfl|trivial)))))]),HB2.out.1⟩
   have HR3:Hid (res=if fc≠0 then fc else if my=false then 82 else wk):=Lh (by rw[HR2.out,if_neg (by have:=HV.out;simp;omega)]);have b4:w2.cell? ⟨w.heap.size,4,none⟩=some (.int .i64 kind):=cH lC rfl;have b5:w2.cell? ⟨w.heap.size,5,none⟩=some (.string ⟨fname.toArray⟩):=cH lC rfl;have b6:w2.cell? ⟨w.heap.size,6,none⟩=some (.int .i64 n):=cH lC rfl;have b7:w2.cell? ⟨w.heap.size,7,none⟩=some (.slice yb.t.a terms.length yb.t.cap):=cH lC rfl;have b8:w2.cell? ⟨w.heap.size,8,none⟩=some (.slice yb.b.a binds.length yb.b.cap):=cH lC rfl;have b9:w2.cell? ⟨w.heap.size,9,none⟩=some (.slice yb.l.a fl.length yb.l.cap):=cH lC rfl;clear lC;have hd:(fc≠0/\(fc !=0)=true)∨(fc=0/\(fc !=0)=false):=by by_cases h:fc=0<;>simp[h]
   go_wp2_with fail;refine(Dh.out _ HB2.out.1).mono ?_;rintro e w3 ⟨rfl,hb3⟩;have zu:=(hb3.block w.heap.size ((gS HB2.out.2).1)).trans HB2.out.2;have HB3:=Lh (aI (HB2.out.1.trans (hb3.mono HB2.out.1.size)) zu);clear hb3 b4 b5 b6 b7 b8 b9;rcases hd with⟨d1,d2⟩|⟨d1,d2⟩
   ·have HD:=Lh d1;clear d1 zu;go_wp2_with fail;go_ret;exact⟨aQ (by rw[HR3.out,if_pos HD.out]),HB3.out.1⟩
   subst d1;clear d2;have b3:w3.cell? ⟨w.heap.size,3,none⟩=some (.slice ye.a each.length ye.cap):=cH zu rfl;clear zu;go_wp2_with fail;refine(HM.out _ HB3.out.1).mono ?_;rintro e w4 ⟨rfl,hb4⟩;have mD:=(hb4.block w.heap.size ((gS HB3.out.2).1)).trans HB3.out.2;have oQ:=Lh (HB3.out.1.trans (hb4.mono HB3.out.1.size));clear hb4 b3;cases my
   ·clear mD;go_wp2_with fail;go_ret;exact⟨aQ (by rw[HR3.out];simp),oQ.out⟩
   have b3:w4.cell? ⟨w.heap.size,3,none⟩=some (.slice ye.a each.length ye.cap):=cH mD rfl;have b4:w4.cell? ⟨w.heap.size,4,none⟩=some (.int .i64 kind):=cH mD rfl;have b5:w4.cell? ⟨w.heap.size,5,none⟩=some (.string ⟨fname.toArray⟩):=cH mD rfl;have b6:w4.cell? ⟨w.heap.size,6,none⟩=some (.int .i64 n):=cH mD rfl;have b7:w4.cell? ⟨w.heap.size,7,none⟩=some (.slice yb.t.a terms.length yb.t.cap):=cH mD rfl;have b8:w4.cell? ⟨w.heap.size,8,none⟩=some (.slice yb.b.a binds.length yb.b.cap):=cH mD rfl;have b9:w4.cell? ⟨w.heap.size,9,none⟩=some (.slice yb.l.a fl.length yb.l.cap):=cH mD rfl;clear mD;have Sy:=Lh (Gn.out _ oQ.out (by first|rfl|trivial));go_wp2_with fail;refine Sy.out.mono ?_;rintro e w5 ⟨rfl,hb5⟩;have uB:=Lh (oQ.out.trans (hb5.mono oQ.out.size));clear hb5;go_wp2_with fail;go_ret;exact⟨aQ (by rw[HR3.out];simp),uB.out⟩
 ·
  have hw1:((weight:Int)<0/\weight<0)∨(decide ((weight:Int)<0)=false/\¬weight<0):=by
   by_cases h:weight<0
   ·exact .inl ⟨h,h⟩
   ·exact .inr ⟨decide_eq_false h,h⟩
  have hw2:((0:Int)<weight/\0<weight)∨(decide ((0:Int)<weight)=false/\¬0<weight):=by
   by_cases h:0<weight
   ·exact .inl ⟨h,h⟩
   ·exact .inr ⟨decide_eq_false h,h⟩
  have hw3:((6:Int)<(each.length:Int)/\6<each.length)∨(decide ((6:Int)<(each.length:Int))=false/\¬6<each.length):=by
   by_cases h:6<each.length
   ·exact .inl ⟨by omega,h⟩
   ·exact .inr ⟨decide_eq_false (by omega),h⟩
  have HR2:Hid (res=if bo=false∨weight<0∨0<weight∨6<each.length∨eb=false then 1 else if fc≠0 then fc else if my=false then 82 else wk):=Lh (by rw[HR.out];rfl);clear HR;go_enter Tryz.func72,Tryz.ntmps72;go_wp2_with fail;refine(R3.out _ HB.out.1).mono ?_;rintro e w1 ⟨rfl,hb1⟩;have qN:=(hb1.block w.heap.size (by simp)).trans HB.out.2;have HB1:=Lh (aI (HB.out.1.trans (hb1.mono HB.out.1.size)) qN);clear hb1;cases bo
  ·clear qN;go_wp2_with fail;go_ret;exact⟨aQ (by rw[HR2.out,if_pos (.inl (by first|rfl|trivial))]),HB1.out.1⟩
  ·have b2:w1.cell? ⟨w.heap.size,2,none⟩=some (.int .i64 weight):=cH qN rfl;have b3:w1.cell? ⟨w.heap.size,3,none⟩=some (.slice ye.a each.length ye.cap):=cH qN rfl;clear qN;rcases hw1 with⟨u1,v1⟩|⟨u1,v1⟩
   ·have HV:=Lh v1;clear v1;go_wp2_with fail;go_ret;exact⟨aQ (by rw[HR2.out,if_pos (.inr (.inl HV.out))]),HB1.out.1⟩
   rcases hw2 with⟨u2,v2⟩|⟨u2,v2⟩
   ·have HV:=Lh v2;clear v1 v2;go_wp2_with fail;go_ret;exact⟨aQ (by rw[HR2.out,if_pos (.inr (.inr (.inl HV.out)))]),HB1.out.1⟩
   rcases hw3 with⟨u3,v3⟩|⟨u3,v3⟩
   ·have HV:=Lh v3;clear v1 v2 v3;go_wp2_with fail;go_ret;exact⟨aQ (by rw[HR2.out,if_pos (.inr (.inr (.inr (.inl HV.out))))]),HB1.out.1⟩
   have HV:=Lh (aI v1 (aI v2 v3));clear v1 v2 v3;go_wp2_with fail;refine(Ns.out _ HB1.out.1).mono ?_;rintro e w2 ⟨rfl,hb2⟩;have lC:=(hb2.block w.heap.size ((gS HB1.out.2).1)).trans HB1.out.2;have HB2:=Lh (aI (HB1.out.1.trans (hb2.mono HB1.out.1.size)) lC);clear hb2 b2 b3;cases eb
   ·clear lC;go_wp2_with fail;go_ret;exact⟨aQ (by rw[HR2.out,if_pos (.inr (.inr (.inr (.inr (by first|rfl|trivial)))))]),HB2.out.1⟩
   have HR3:Hid (res=if fc≠0 then fc else if my=false then 82 else wk):=Lh (by rw[HR2.out,if_neg (by have:=HV.out;simp;omega)]);have b4:w2.cell? ⟨w.heap.size,4,none⟩=some (.int .i64 kind):=cH lC rfl;have b5:w2.cell? ⟨w.heap.size,5,none⟩=some (.string ⟨fname.toArray⟩):=cH lC rfl;have b6:w2.cell? ⟨w.heap.size,6,none⟩=some (.int .i64 n):=cH lC rfl;have b7:w2.cell? ⟨w.heap.size,7,none⟩=some (.slice yb.t.a terms.length yb.t.cap):=cH lC rfl;have b8:w2.cell? ⟨w.heap.size,8,none⟩=some (.slice yb.b.a binds.length yb.b.cap):=cH lC rfl;have b9:w2.cell? ⟨w.heap.size,9,none⟩=some (.slice yb.l.a fl.length yb.l.cap):=cH lC rfl;clear lC;have hd:(fc≠0/\(fc !=0)=true)∨(fc=0/\(fc !=0)=false):=by by_cases h:fc=0<;>simp[h]
   go_wp2_with fail;refine(Dh.out _ HB2.out.1).mono ?_;rintro e w3 ⟨rfl,hb3⟩;have zu:=(hb3.block w.heap.size ((gS HB2.out.2).1)).trans HB2.out.2;have HB3:=Lh (aI (HB2.out.1.trans (hb3.mono HB2.out.1.size)) zu);clear hb3 b4 b5 b6 b7 b8 b9;rcases hd with⟨d1,d2⟩|⟨d1,d2⟩
   ·have HD:=Lh d1;clear d1 zu;go_wp2_with fail;go_ret;exact⟨aQ (by rw[HR3.out,if_pos HD.out]),HB3.out.1⟩
   subst d1;clear d2;have b3:w3.cell? ⟨w.heap.size,3,none⟩=some (.slice ye.a each.length ye.cap):=cH zu rfl;clear zu;go_wp2_with fail;refine(HM.out _ HB3.out.1).mono ?_;rintro e w4 ⟨rfl,hb4⟩;have mD:=(hb4.block w.heap.size ((gS HB3.out.2).1)).trans HB3.out.2;have oQ:=Lh (HB3.out.1.trans (hb4.mono HB3.out.1.size));clear hb4 b3;cases my
   ·clear mD;go_wp2_with fail;go_ret;exact⟨aQ (by rw[HR3.out];simp),oQ.out⟩
   have b3:w4.cell? ⟨w.heap.size,3,none⟩=some (.slice ye.a each.length ye.cap):=cH mD rfl;have b4:w4.cell? ⟨w.heap.size,4,none⟩=some (.int .i64 kind):=cH mD rfl;have b5:w4.cell? ⟨w.heap.size,5,none⟩=some (.string ⟨fname.toArray⟩):=cH mD rfl;have b6:w4.cell? ⟨w.heap.size,6,none⟩=some (.int .i64 n):=cH mD rfl;have b7:w4.cell? ⟨w.heap.size,7,none⟩=some (.slice yb.t.a terms.length yb.t.cap):=cH mD rfl;have b8:w4.cell? ⟨w.heap.size,8,none⟩=some (.slice yb.b.a binds.length yb.b.cap):=cH mD rfl;have b9:w4.cell? ⟨w.heap.size,9,none⟩=some (.slice yb.l.a fl.length yb.l.cap):=cH mD rfl;clear mD;have Sy:=Lh (Gn.out _ oQ.out (by first|rfl|trivial));go_wp2_with fail;refine Sy.out.mono ?_;rintro e w5 ⟨rfl,hb5⟩;have uB:=Lh (oQ.out.trans (hb5.mono oQ.out.size));clear hb5;go_wp2_with fail;go_ret;exact⟨aQ (by rw[HR3.out];simp),uB.out⟩
end Go.Proofs.YtncnnbmeacpboaaGreatDoor
namespace Go.aa
open Go.RowKit
variable {w W W' W0:World} {l:List ae} {b cap j B C lo sz H:Nat} {cs:List Value} {T e t:TypeId} {fz:Nat×Nat} {F:Nat->Prop} {xs:List D} {f:ae} {kind n:Int} {name:Bs} {a binds bs:List aD} {want:Option (List Int)} {out:List Int} {terms:List bH} {met:List Bs} {r:List bq} {x:bq} {s:aF} {y:aC}
theorem ay.ten{o:Nat}{c0 c1 c2 c3 c4 c5 c6 c7 c8 c9:Value}(h:ay w b o [c0,c1,c2,c3,c4,c5,c6,c7,c8,c9]):w.cell? ⟨b,o,none⟩=some c0/\w.cell? ⟨b,o+1,none⟩=some c1/\w.cell? ⟨b,o+2,none⟩=some c2/\w.cell? ⟨b,o+3,none⟩=some c3/\w.cell? ⟨b,o+4,none⟩=some c4/\
  w.cell? ⟨b,o+5,none⟩=some c5/\w.cell? ⟨b,o+6,none⟩=some c6/\w.cell? ⟨b,o+7,none⟩=some c7/\w.cell? ⟨b,o+8,none⟩=some c8/\w.cell? ⟨b,o+9,none⟩=some c9:=
 ⟨by simpa using h 0 (by simp),by simpa using h 1 (by simp),by simpa using h 2 (by simp),by simpa using h 3 (by simp),by simpa using h 4 (by simp),by simpa using h 5 (by simp),by simpa using h 6 (by simp),by simpa using h 7 (by simp),by simpa using h 8 (by simp),by simpa using h 9 (by simp)⟩
theorem gV.later{w':World}{r:bq}{x:iG}(h:gV w (·<B) r x)(hb:Below B w w')(hC:B<=C):gV w' (·<C) r x:=(h.agree (ag hb)).mono (fun _ hk=>Nat.lt_of_lt_of_le hk hC)
theorem yE{l:List bq}(hl:l=x::r){e:Int}(he:dK x=e)(h:e≠0):fM met l j=((j:Int),e):=by
 subst hl;rw[fM,he,if_pos h]
theorem sZ{l:List bq}(hl:l=x::r)(he:dK x=0)(h:met.contains x.name=true):fM met l j=((j:Int),82):=by
 subst hl;rw[fM,he,if_neg (by simp),h,if_pos rfl]
theorem wC{l:List bq}(hl:l=x::r)(he:dK x=0)(h:met.contains x.name=false):fM met l j=fM (met++[x.name]) r (j+1):=by
 subst hl;rw[fM,he,if_neg (by simp),h,if_neg (by simp)]
end Go.aa
namespace Go.Proofs.YtncnnbmeacpboaaGreatDoor
open Go.RowKit Go.aa
variable {w W W' W0:World} {l:List ae} {b cap j B C lo sz H:Nat} {cs:List Value} {T e t:TypeId} {fz:Nat×Nat} {F:Nat->Prop} {xs:List D} {f:ae} {kind n:Int} {name:Bs} {a binds bs:List aD} {want:Option (List Int)} {out:List Int} {terms:List bH} {met:List Bs} {r:List bq} {x:bq} {s:aF} {y:aC}
theorem EW(l:List bq)(x:aK)(w:World)(hx:aj w (·<w.heap.size) (l.map bq.toD) x)(hl:l.length<=2000000)(hf:∀r∈l,gF r)(hg:GG w):
  Calls Tryz.prog 42 #[.slice x.a l.length x.cap] w fun e w'=>e=.returned (.tuple #[.int .i64 (iI l).1,.int .i64 (iI l).2])/\Below w.heap.size w w':=by
 have hmm:= @run_makeMap Tryz.prog;have Jp:Hid (∀(j:Nat) (hj:j<l.length),∃y:iG,gV w (·<w.heap.size) l[j] y/\ay w x.b (x.o+j*10) (y.cells l[j])):=Lh (fun j hj=>hx.Aj j hj);have uF:=Lh hx.at_;have ou:=Lh (fun(j:Nat) (hj:j<l.length)=>hf _ (List.getElem_mem hj));have HG:=Lh hg;obtain⟨res,hres⟩:∃res,res=iI l:=⟨_,rfl⟩;rw[<-hres];have qp:=Lh (show res=fM [] l 0 from hres);clear hx hf hg hres;go_enter Tryz.func42,Tryz.ntmps42;go_wp2_with fail;go_loopw [11] (fun i wr=>∃j:Nat,j<=l.length/\i=.int .i64 j/\Below w.heap.size w wr/\Hid (uI wr w.heap.size ((l.take j).map bq.name))/\Hid (res=fM ((l.take j).map bq.name) (l.drop j) j)) (fun i _=>l.length-(intOf i).toNat)
 case atStart=>exact⟨0,Nat.zero_le _,rfl,(Below.refl _ _).alloc (Nat.le_refl _) _,Lh (IE w),qp⟩
 case round=>
  obtain⟨j,hj,rfl,hb,Qe,HE⟩:=hrel;by_cases hlt:j<l.length
  ·obtain⟨y,hy1,hy2⟩:=Jp.out j hlt;obtain⟨hxa,kg⟩:=uF.out (by rw[List.length_map];omega);have hys:=hy2.agree (ag hb) kg;have hbw:Below w.heap.size w (wr.alloc (.cells (y.cells l[j]).toArray 66)):=hb.alloc hb.size _;have fZ:=Lh (I9 l[j] y _ (hy1.later hbw hbw.size) (ou.out j hlt) (HG.out.below hbw));have hdrop:l.drop j=l[j]::l.drop (j+1):=List.drop_eq_getElem_cons hlt;have htk:(l.take (j+1)).map bq.name=(l.take j).map bq.name++[l[j].name]:=by rw[List.take_succ_eq_append_getElem hlt,List.map_append];rfl
   have HDR:=Lh hdrop;have tL:=Lh htk;have Df:=Lh hbw;obtain⟨c,hc⟩:∃c,dK l[j]=c:=⟨_,rfl⟩;rw[hc] at fZ;have uf:=Lh hc;rw[hxa];clear hy1 hy2 kg hbw hdrop hc htk;generalize l[j]=re at fZ Df HDR uf tL hys;obtain⟨name,hard,weight,each,⟨kind,fname,n,terms,binds,fl⟩⟩:=re;obtain⟨ye,yb⟩:=y;simp only[iG.cells,aC.cells,aK.val,ae.kind,ae.name,ae.n,ae.terms,ae.binds,ae.l] at fZ Df tL hys;obtain⟨e0,e1,e2,e3,e4,e5,e6,e7,e8,e9⟩:=hys.ten;clear hys;generalize hmet:(l.take j).map bq.name=met at Qe HE tL;clear hmet;have hcd:(c≠0/\(c !=0)=true)∨(c=0/\(c !=0)=false):=by by_cases h:c=0<;>simp[h]
   rcases hcd with⟨d1,d2⟩|⟨d1,d2⟩
   ·have HD:=Lh (HE.out.trans (yE HDR.out uf.out d1));clear d1;go_wp2_with fail;refine fZ.out.mono ?_;rintro e w1 ⟨rfl,hb1⟩;have HB1:=Lh (Df.out.trans (hb1.mono Df.out.size));clear hb1;go_wp2_with fail;go_ret2;exact⟨by rw[HD.out];rfl,HB1.out⟩
   ·subst d1;clear d2;go_wp2_with fail;refine fZ.out.mono ?_;rintro e w1 ⟨rfl,hb1⟩;have DL:=(gS Qe.out).1;have qO:uI w1 w.heap.size met:=(hb1.block w.heap.size (by simp;omega)).trans ((Below.heap_alloc _ _ _ DL).trans Qe.out);have q0:w1.cell? ⟨wr.heap.size,0,none⟩=some (.string ⟨name.toArray⟩):=cH (boxed (B:=wr.heap.size+1) (by simpa using hb1) (by omega)) rfl;have HB1:=Lh (Df.out.trans (hb1.mono Df.out.size));have hlk:=Cx (P:=Tryz.prog) w1 120 _ _ w.heap.size met name Tryz.underlying120 Tryz.underlying9 Tryz.zeroValue4 qO;cases hcn:met.contains name
    ·have hput:=FU (P:=Tryz.prog) w1 120 _ _ w.heap.size met name Tryz.underlying120 Tryz.underlying9 qO hcn;rw[hcn] at hlk;have HD:=Lh (HE.out.trans (wC HDR.out uf.out hcn));have hl1:w.heap.size<w1.heap.size:=(gS qO).1;clear hb1 qO hcn DL;go_wp2_with fail;refine⟨⟨j+1,by omega,by go_num,?_,Lh ?_,Lh ?_⟩,by simp[intOf];omega⟩
     ·exact HB1.out.trans ((aa.Mod.putObj w1 w.heap.size _).below HB1.out.size (fun k hk=>by omega))
     ·rw[tL.out];show(World.putObj _ _ _).heap[_]?=_;rw[World.putObj_heap_same hl1];simp
     ·rw[tL.out];exact HD.out
    ·rw[hcn] at hlk;have HD:=Lh (HE.out.trans (sZ HDR.out uf.out hcn));clear hb1 qO hcn DL;go_wp2_with fail;go_ret2;exact⟨by rw[HD.out];rfl,HB1.out⟩
  ·have hjl:j=l.length:=by omega
   have HD:Hid (res=(0,0)):=Lh (by rw[HE.out,hjl,List.drop_length,fM]);clear hjl;go_wp2_with fail;go_ret2;exact⟨by rw[HD.out];rfl,hb⟩
def bX(W:World)(b:Nat)(s:aF)(x:bS):Prop:=W.heap[b]?=some (.cells (x.cells s).toArray 28 (0,0))
theorem bX.cells{x:bS}(h:bX W b s x):W.cell? ⟨b,0,none⟩=some (.slice x.slots.a s.slots.length x.slots.cap)/\W.cell? ⟨b,1,none⟩=some (.slice x.ah.a s.ah.length x.ah.cap)/\W.cell? ⟨b,2,none⟩=some (.slice x.people.a s.people.length x.people.cap)/\W.cell? ⟨b,3,none⟩=some (.slice x.groups.a s.groups.length x.groups.cap)/\W.cell? ⟨b,4,none⟩=some (.slice x.lessons.a s.lessons.length x.lessons.cap):=
 ⟨cH h rfl,cH h rfl,cH h rfl,cH h rfl,cH h rfl⟩
theorem bX.below{x:bS}(h:bX W b s x)(hb:Below W.heap.size W W'):bX W' b s x:=(hb.block _ (gS h).1).trans h
theorem bX.lt{x:bS}(h:bX W b s x):b<W.heap.size:=(gS h).1
end Go.Proofs.YtncnnbmeacpboaaGreatDoor
namespace Go.aa
open Go.RowKit
variable {w W W' W0:World} {l:List ae} {b cap j B C lo sz H:Nat} {cs:List Value} {T e t:TypeId} {fz:Nat×Nat} {F:Nat->Prop} {xs:List D} {f:ae} {kind n:Int} {name:Bs} {a binds bs:List aD} {want:Option (List Int)} {out:List Int} {terms:List bH} {met:List Bs} {r:List bq} {x:bq} {s:aF} {y:aC}
def Eb(l:List Nat):List Int:=l.map (fun(n:Nat)=>(n:Int))
@[simp] theorem PN(a:List Nat):(Eb a).length=a.length:=by simp[Eb]
end Go.aa
namespace Go.aa
open Go.RowKit
variable {P:Program}
variable {w W W' W0:World} {l:List ae} {b cap j B C lo sz H:Nat} {cs:List Value} {T e t:TypeId} {fz:Nat×Nat} {F:Nat->Prop} {xs:List D} {f:ae} {kind n:Int} {name:Bs} {a binds bs:List aD} {want:Option (List Int)} {out:List Int} {terms:List bH} {met:List Bs} {r:List bq} {x:bq} {s:aF} {y:aC}
theorem qf(hB:W0.heap.size=B){lo:Nat}{F:Nat->Prop}{ops:Array Oper}{rest:List Oper}{o:Oper}{a:Act}{Q:Exit->Act->World->Prop}(hgd:o.guard=none)(s x:Operand)(t:TypeId)(ho:o.op=.call { callee:=.builtin .append,args:=#[s,x],argTypes:=#[t,t]})(e:TypeId)(i:TypeInfo)(z:Value)(size bytes:Nat)(ht:P.underlying t=some (.slice e))(hi:P.info? e=some i)(hz:i.zero=some z)(hsize:i.size=size)(hby:i.bytes=bytes)(hzs:z.cells.size=size)(hsz:0<size)(v:Value)(xs:List D)(y:D)(cs:List Value)(T:TypeId)(hs:a.eval s=v)(hx:a.eval x=.slice (some ⟨B,0,none⟩) 1 1)(hv:fV W0 lo F e size v xs)(hd:au W0 F [y] cs)(hlo:lo<=W0.heap.size)(hw:y.width=size)(hwx:bO xs=xs.length*size)(h63:xs.length+1<=maxLen)(hbytes:(xs.length+1)*bytes<=140737488355328)(h:∀ao cap w',fV w' lo F e size (.slice ao (xs.length+1) cap) (xs++[y])->Below lo W0 w'->wpList P ops Q rest (a.put o.dst (.slice ao (xs.length+1) cap)) w'):
  wpList P ops Q (o::rest) a (W0.alloc (.cells cs.toArray T)):=
 gX hgd s x t ho e i z size bytes ht hi hz hsize hby hzs hsz v xs y cs T hs (by rw[hx,hB]) hv hd hlo hw hwx h63 hbytes h
def fP(w:World)(lo:Nat)(F:Nat->Prop)(e:TypeId)(sz:Nat)(v:Value)(xs:List D):Prop:=∃r,Own w F e sz v r xs/\∀k,r=some k->lo<=k
theorem fP.onto{v:Value}(h:fP w lo F e sz v xs):fV w lo F e sz v xs:=.inr h
theorem fP.nil(w:World)(lo:Nat)(F:Nat->Prop)(e:TypeId)(sz:Nat)(lt:∀k,F k->k<w.heap.size):fP w lo F e sz (.slice none 0 0) []:=⟨none,Own.nil _ _ _ _ lt,fun _ h=>by cases h⟩
theorem fP.below{w w':World}{lo:Nat}{F:Nat->Prop}{e:TypeId}{sz:Nat}{v:Value}{xs:List D}(h:fP w lo F e sz v xs)(hb:Below w.heap.size w w'):fP w' lo F e sz v xs:=by
 obtain⟨r,h1,h2⟩:=h;exact⟨r,h1.below hb,h2⟩
theorem fP.form{w:World}{lo:Nat}{F:Nat->Prop}{e:TypeId}{sz:Nat}{v:Value}{xs:List D}(h:fP w lo F e sz v xs):∃a cap,v=.slice a xs.length cap:=by
 obtain⟨r,h1,_⟩:=h;exact h1.form
theorem bR(hB:W0.heap.size=B){lo:Nat}{F:Nat->Prop}{ops:Array Oper}{rest:List Oper}{o:Oper}{a:Act}{Q:Exit->Act->World->Prop}(hgd:o.guard=none)(s x:Operand)(t:TypeId)(ho:o.op=.call { callee:=.builtin .append,args:=#[s,x],argTypes:=#[t,t]})(e:TypeId)(i:TypeInfo)(z:Value)(size bytes:Nat)(ht:P.underlying t=some (.slice e))(hi:P.info? e=some i)(hz:i.zero=some z)(hsize:i.size=size)(hby:i.bytes=bytes)(hzs:z.cells.size=size)(hsz:0<size)(v:Value)(xs:List D)(y:D)(cs:List Value)(T:TypeId)(hs:a.eval s=v)(hx:a.eval x=.slice (some ⟨B,0,none⟩) 1 1)(hv:fP W0 lo F e size v xs)(hd:au W0 F [y] cs)(hlo:lo<=W0.heap.size)(hw:y.width=size)(h63:xs.length+1<=maxLen)(hbytes:(xs.length+1)*bytes<=140737488355328)(h:∀ao cap w',fP w' lo F e size (.slice ao (xs.length+1) cap) (xs++[y])->Below lo W0 w'->wpList P ops Q rest (a.put o.dst (.slice ao (xs.length+1) cap)) w'):
  wpList P ops Q (o::rest) a (W0.alloc (.cells cs.toArray T)):=by
 obtain⟨r,h1,h2⟩:=hv;have hb:Below W0.heap.size W0 (W0.alloc (.cells cs.toArray T)):=(Below.refl _ _).alloc (Nat.le_refl _) _;have hnb:(W0.alloc (.cells cs.toArray T)).heap[W0.heap.size]?=some (.cells cs.toArray T (0,0)):=boxed (B:=W0.heap.size+1) (Below.refl _ _) (by omega);have hnews:∀j u,cs[j]?=some u->(W0.alloc (.cells cs.toArray T)).cell? ((⟨W0.heap.size,0,none⟩:Addr).add j)=some u:=fun j u hu=>by
  have hc:=cH (i:=j) hnb (v:=u) (by simpa using hu);unfold Addr.add;by_cases h0:j=0
  ·subst h0;simpa using hc
  ·rw[if_neg h0];simpa using hc
 have hlen:cs.length=1*size:=by
  have:=au.length _ _ hd;rw[this];simp[bO,hw]
 have hd':au (W0.alloc (.cells cs.toArray T)) F [y] cs:=au.agree ((ag hb).mono h1.lt) _ _ hd;have h1':=h1.alloc (.cells cs.toArray T);obtain⟨cs0,k1,k2⟩:=h1'.cells;refine wpList_append_lies (W0.alloc (.cells cs.toArray T)) hgd s x t ho 0 e i z size bytes ht hi hz hsize hby hzs hsz v xs.length cs0 hs k1 ⟨W0.heap.size,0,none⟩ 1 1 cs (by rw[hx,hB]) hlen hnews (au.one _ _ hd) (by omega) h63 hbytes (Nat.zero_le _) _ rfl (fun g cap w' hown hgr hat hlt=>?_);obtain⟨g1,g2,g3⟩:=h1'.appended (ys:=[y]) k2 hown hgr (by rcases hat with h|h;exact .inl h.symm;exact .inr (by rw[h];rfl)) hd';have hm0:Mod (fun k=>r=some k) W0 w':=(Mod.of_below (S:=fun k=>r=some k) hb).trans g2 (fun _ _ h=>h);refine h _ _ _ ⟨_,g1,fun k hk=>?_⟩ (hm0.below hlo (fun k hk=>h2 k hk));rcases g3 with g3|g3
 ·rw[g3] at hk;exact h2 k hk
 ·rw[g3] at hk;simp at hk;omega
end Go.aa
namespace Go.Proofs.YtncnnbmeacpboaaGreatDoor
open Go.RowKit Go.aa
variable {w W W' W0:World} {l:List ae} {b cap j B C lo sz H:Nat} {cs:List Value} {T e t:TypeId} {fz:Nat×Nat} {F:Nat->Prop} {xs:List D} {f:ae} {kind n:Int} {name:Bs} {a binds bs:List aD} {want:Option (List Int)} {out:List Int} {terms:List bH} {met:List Bs} {r:List bq} {x:bq} {s:aF} {y:aC}
theorem count_le(hsm:SchSmall s)(sort:Int):bA s sort<=2000000:=by
 have h1:=hsm.slots;have h2:=hsm.ah;have h3:=hsm.people;have h4:=hsm.groups;have h5:=hsm.lessons;rw[fq]
 repeat' split
 all_goals omega
def fT(n:Bs):D:=.str ⟨n.toArray⟩
theorem iW:kK fT 1:=⟨fun _=>rfl,fun _=>rfl⟩
theorem nO:(Tryz.prog.info? 9).map (fun i=>(i.zero,i.size,i.bytes))=some (some (.string ByteArray.empty),1,16):=by kernel_rfl
theorem nW{ns:List Bs}(hj:j<ns.length):(ns.take (j+1)).map fT=(ns.take j).map fT++[fT ns[j]]:=by rw[List.take_succ_eq_append_getElem hj,List.map_append];rfl
theorem Cr(s:aF)(x:bS)(sort:Int)(w:World)(h:¬(1<=sort/\sort<=7)):
  Calls Tryz.prog 40 #[.agg (x.cells s).toArray,.int .i64 sort] w fun e w'=>∃x0:aK,e=.returned (.slice x0.a 0 x0.cap)/\aj w' (·<w'.heap.size) [] x0/\Below w.heap.size w w':=by
 have k1:(sort==1)=false:=by simp;omega
 have k2:(sort==2)=false:=by simp;omega
 have k3:(sort==3)=false:=by simp;omega
 have k4:(sort==4)=false:=by simp;omega
 have k5:(sort==5)=false:=by simp;omega
 have k6:(sort==6)=false:=by simp;omega
 have k7:(sort==7)=false:=by simp;omega
 clear h;simp only[bS.cells,aK.val];go_enter Tryz.func40,Tryz.ntmps40;go_wp2_with fail;go_ret;exact⟨⟨none,0,0,0⟩,rfl,aj.nil (Nat.zero_le _) _ _ _,(Below.refl _ _).alloc (Nat.le_refl _) _⟩
theorem Mg(s:aF)(x:bS)(w:World)(hs:aj w (·<w.heap.size) (s.lessons.map qx.toD) x.lessons)(hl:s.lessons.length<=2000000)(hN:∀(j:Nat) (hj:j<s.lessons.length),w.cell? ⟨x.lessons.b,x.lessons.o+j*3,none⟩=some (.string ⟨s.lessons[j].name.toArray⟩)/\s.lessons[j].name.length<=maxLen):
  Calls Tryz.prog 40 #[.agg (x.cells s).toArray,.int .i64 1] w fun e w'=>∃x0:aK,e=.returned (.slice x0.a (s.lessons.map qx.name).length x0.cap)/\aj w' (·<w'.heap.size) ((s.lessons.map qx.name).map fT) x0/\Below w.heap.size w w':=by
 have uF:=Lh hs.at_;have HN:=Lh hN;have hbx:bX (w.alloc (.cells (x.cells s).toArray 28)) w.heap.size s x:=by unfold bX;rw[af,if_pos rfl]
 have gM:=Lh hbx;obtain⟨i0,hi,hz0,hz1,hz2⟩:=info_parts nO;obtain⟨ns,hns⟩:∃ns,ns=s.lessons.map qx.name:=⟨_,rfl⟩;have hln:ns.length=s.lessons.length:=by rw[hns,List.length_map]
 have kM:=Lh (aI hns (aI hln hl));rw[<-hns];clear hs hN hbx hns hln hl;simp only[bS.cells,aK.val] at gM ⊢;go_enter Tryz.func40,Tryz.ntmps40;go_wp2_with fail;go_loopw [5,6] (fun v i wr=>∃j:Nat,j<=s.lessons.length/\i=.int .i64 j/\Below w.heap.size w wr/\Hid (bX wr w.heap.size s x)/\Hid (fP wr (w.heap.size+1) (fun _=>False) 9 1 v ((ns.take j).map fT))) (fun _ i _=>s.lessons.length-(intOf i).toNat)
 case atStart=>exact⟨0,Nat.zero_le _,rfl,(Below.refl _ _).alloc (Nat.le_refl _) _,gM,Lh (fP.nil _ _ _ _ _ (fun _ h=>h.elim))⟩
 case round=>
  obtain⟨j,hj,rfl,hb,gM,HO⟩:=hrel;obtain⟨c0,c1,c2,c3,c4⟩:=gM.out.cells;obtain⟨oa,iA,ho⟩:=HO.out.form;subst ho;have hlen:((ns.take j).map fT).length=j:=by rw[List.length_map,List.length_take];have:=kM.out.2.1;omega
  rw[hlen] at HO ⊢;have lu:=Lh hlen;clear hlen;by_cases hlt:j<s.lessons.length
  ·obtain⟨hxa,hbl⟩:=uF.out (by rw[List.length_map];omega);obtain⟨q0,q1⟩:=HN.out j hlt;have e0:=(hb.cell (p:=⟨x.lessons.b,x.lessons.o+j*3,none⟩) hbl).trans q0;have hjn:j<ns.length:=by have:=kM.out.2.1;omega
   have Dc:ns[j]=s.lessons[j].name:=by have h:=kM.out.1;subst h;simp
   have HT:=Lh (nW hjn);rw[Dc] at HT;have HF:=Lh (au.nM (w:=wr) (F:=fun _=>False) (x:=fT s.lessons[j].name) rfl (by show(⟨(s.lessons[j].name).toArray⟩:ByteArray).size<=maxLen;rw[aZ];exact q1));have HB1:=Lh hb;have hlm:=kM.out.2.2;rw[hxa] at c4;clear q0 q1 hjn Dc hxa;generalize s.lessons[j].name=nm at HT HF e0;go_wp2_with (at_builtin;go_must (refine bR rfl rfl _ _ 47 rfl 9 i0 _ 1 16 Tryz.underlying47 hi hz0 hz1 hz2 rfl (by decide) (.slice oa j iA) ((ns.take j).map fT) (fT nm) [.string ⟨nm.toArray⟩] 9 rfl rfl HO.out HF.out (by have:=gM.out.lt;omega) rfl (by rw[lu.out];unfold maxLen;omega) (by rw[lu.out];omega) ?_);intro ao cap w5 hon hb5;rw[lu.out] at hon ⊢;have lS:=Lh (aI hon (aI (HB1.out.trans (hb5.mono (by omega))) (show bX w5 w.heap.size s x from(hb5.block _ (by omega)).trans gM.out)));clear hon hb5);refine⟨⟨j+1,by omega,by go_num,lS.out.2.1,Lh lS.out.2.2,Lh ?_⟩,by simp[intOf];omega⟩;rw[HT.out];exact lS.out.1
  ·have HL:Hid (ns.take j=ns/\j=ns.length):=Lh ⟨List.take_of_length_le (by have:=kM.out.2.1;omega),by have:=kM.out.2.1;omega⟩;have HB1:=Lh hb;go_wp2_with fail;go_ret;have h:=HO.out;rw[HL.out.1] at h;obtain⟨x0,h0,h1⟩:=h.onto.sl (by rw[bP iW,List.length_map]);rw[List.length_map,<-HL.out.2] at h0;refine⟨x0,?_,h1,HB1.out⟩;show Ending.returned (.slice oa j iA)=_;rw[h0,aK.val,<-HL.out.2]
theorem Mh(s:aF)(x:bS)(w:World)(hs:aj w (·<w.heap.size) (s.slots.map ma.toD) x.slots)(hl:s.slots.length<=2000000)(hN:∀(j:Nat) (hj:j<s.slots.length),w.cell? ⟨x.slots.b,x.slots.o+j*3,none⟩=some (.string ⟨s.slots[j].name.toArray⟩)/\s.slots[j].name.length<=maxLen):
  Calls Tryz.prog 40 #[.agg (x.cells s).toArray,.int .i64 2] w fun e w'=>∃x0:aK,e=.returned (.slice x0.a (s.slots.map ma.name).length x0.cap)/\aj w' (·<w'.heap.size) ((s.slots.map ma.name).map fT) x0/\Below w.heap.size w w':=by
 have uF:=Lh hs.at_;have HN:=Lh hN;have hbx:bX (w.alloc (.cells (x.cells s).toArray 28)) w.heap.size s x:=by unfold bX;rw[af,if_pos rfl]
 have gM:=Lh hbx;obtain⟨i0,hi,hz0,hz1,hz2⟩:=info_parts nO;obtain⟨ns,hns⟩:∃ns,ns=s.slots.map ma.name:=⟨_,rfl⟩;have hln:ns.length=s.slots.length:=by rw[hns,List.length_map]
 have kM:=Lh (aI hns (aI hln hl));rw[<-hns];clear hs hN hbx hns hln hl;simp only[bS.cells,aK.val] at gM ⊢;go_enter Tryz.func40,Tryz.ntmps40;go_wp2_with fail;go_loopw [5,7] (fun v i wr=>∃j:Nat,j<=s.slots.length/\i=.int .i64 j/\Below w.heap.size w wr/\Hid (bX wr w.heap.size s x)/\Hid (fP wr (w.heap.size+1) (fun _=>False) 9 1 v ((ns.take j).map fT))) (fun _ i _=>s.slots.length-(intOf i).toNat)
 case atStart=>exact⟨0,Nat.zero_le _,rfl,(Below.refl _ _).alloc (Nat.le_refl _) _,gM,Lh (fP.nil _ _ _ _ _ (fun _ h=>h.elim))⟩
 case round=>
  obtain⟨j,hj,rfl,hb,gM,HO⟩:=hrel;obtain⟨c0,c1,c2,c3,c4⟩:=gM.out.cells;obtain⟨oa,iA,ho⟩:=HO.out.form;subst ho;have hlen:((ns.take j).map fT).length=j:=by rw[List.length_map,List.length_take];have:=kM.out.2.1;omega
  rw[hlen] at HO ⊢;have lu:=Lh hlen;clear hlen;by_cases hlt:j<s.slots.length
  ·obtain⟨hxa,hbl⟩:=uF.out (by rw[List.length_map];omega);obtain⟨q0,q1⟩:=HN.out j hlt;have e0:=(hb.cell (p:=⟨x.slots.b,x.slots.o+j*3,none⟩) hbl).trans q0;have hjn:j<ns.length:=by have:=kM.out.2.1;omega
   have Dc:ns[j]=s.slots[j].name:=by have h:=kM.out.1;subst h;simp
   have HT:=Lh (nW hjn);rw[Dc] at HT;have HF:=Lh (au.nM (w:=wr) (F:=fun _=>False) (x:=fT s.slots[j].name) rfl (by show(⟨(s.slots[j].name).toArray⟩:ByteArray).size<=maxLen;rw[aZ];exact q1));have HB1:=Lh hb;have hlm:=kM.out.2.2;rw[hxa] at c0;clear q0 q1 hjn Dc hxa;generalize s.slots[j].name=nm at HT HF e0;go_wp2_with (at_builtin;go_must (refine bR rfl rfl _ _ 47 rfl 9 i0 _ 1 16 Tryz.underlying47 hi hz0 hz1 hz2 rfl (by decide) (.slice oa j iA) ((ns.take j).map fT) (fT nm) [.string ⟨nm.toArray⟩] 9 rfl rfl HO.out HF.out (by have:=gM.out.lt;omega) rfl (by rw[lu.out];unfold maxLen;omega) (by rw[lu.out];omega) ?_);intro ao cap w5 hon hb5;rw[lu.out] at hon ⊢;have lS:=Lh (aI hon (aI (HB1.out.trans (hb5.mono (by omega))) (show bX w5 w.heap.size s x from(hb5.block _ (by omega)).trans gM.out)));clear hon hb5);refine⟨⟨j+1,by omega,by go_num,lS.out.2.1,Lh lS.out.2.2,Lh ?_⟩,by simp[intOf];omega⟩;rw[HT.out];exact lS.out.1
  ·have HL:Hid (ns.take j=ns/\j=ns.length):=Lh ⟨List.take_of_length_le (by have:=kM.out.2.1;omega),by have:=kM.out.2.1;omega⟩;have HB1:=Lh hb;go_wp2_with fail;go_ret;have h:=HO.out;rw[HL.out.1] at h;obtain⟨x0,h0,h1⟩:=h.onto.sl (by rw[bP iW,List.length_map]);rw[List.length_map,<-HL.out.2] at h0;refine⟨x0,?_,h1,HB1.out⟩;show Ending.returned (.slice oa j iA)=_;rw[h0,aK.val,<-HL.out.2]
theorem Mi(s:aF)(x:bS)(w:World)(hs:aj w (·<w.heap.size) (s.ah.map qi.toD) x.ah)(hl:s.ah.length<=2000000)(hN:∀(j:Nat) (hj:j<s.ah.length),w.cell? ⟨x.ah.b,x.ah.o+j*4,none⟩=some (.string ⟨s.ah[j].name.toArray⟩)/\s.ah[j].name.length<=maxLen):
  Calls Tryz.prog 40 #[.agg (x.cells s).toArray,.int .i64 3] w fun e w'=>∃x0:aK,e=.returned (.slice x0.a (s.ah.map qi.name).length x0.cap)/\aj w' (·<w'.heap.size) ((s.ah.map qi.name).map fT) x0/\Below w.heap.size w w':=by
 have uF:=Lh hs.at_;have HN:=Lh hN;have hbx:bX (w.alloc (.cells (x.cells s).toArray 28)) w.heap.size s x:=by unfold bX;rw[af,if_pos rfl]
 have gM:=Lh hbx;obtain⟨i0,hi,hz0,hz1,hz2⟩:=info_parts nO;obtain⟨ns,hns⟩:∃ns,ns=s.ah.map qi.name:=⟨_,rfl⟩;have hln:ns.length=s.ah.length:=by rw[hns,List.length_map]
 have kM:=Lh (aI hns (aI hln hl));rw[<-hns];clear hs hN hbx hns hln hl;simp only[bS.cells,aK.val] at gM ⊢;go_enter Tryz.func40,Tryz.ntmps40;go_wp2_with fail;go_loopw [5,8] (fun v i wr=>∃j:Nat,j<=s.ah.length/\i=.int .i64 j/\Below w.heap.size w wr/\Hid (bX wr w.heap.size s x)/\Hid (fP wr (w.heap.size+1) (fun _=>False) 9 1 v ((ns.take j).map fT))) (fun _ i _=>s.ah.length-(intOf i).toNat)
 case atStart=>exact⟨0,Nat.zero_le _,rfl,(Below.refl _ _).alloc (Nat.le_refl _) _,gM,Lh (fP.nil _ _ _ _ _ (fun _ h=>h.elim))⟩
 case round=>
  obtain⟨j,hj,rfl,hb,gM,HO⟩:=hrel;obtain⟨c0,c1,c2,c3,c4⟩:=gM.out.cells;obtain⟨oa,iA,ho⟩:=HO.out.form;subst ho;have hlen:((ns.take j).map fT).length=j:=by rw[List.length_map,List.length_take];have:=kM.out.2.1;omega
  rw[hlen] at HO ⊢;have lu:=Lh hlen;clear hlen;by_cases hlt:j<s.ah.length
  ·obtain⟨hxa,hbl⟩:=uF.out (by rw[List.length_map];omega);obtain⟨q0,q1⟩:=HN.out j hlt;have e0:=(hb.cell (p:=⟨x.ah.b,x.ah.o+j*4,none⟩) hbl).trans q0;have hjn:j<ns.length:=by have:=kM.out.2.1;omega
   have Dc:ns[j]=s.ah[j].name:=by have h:=kM.out.1;subst h;simp
   have HT:=Lh (nW hjn);rw[Dc] at HT;have HF:=Lh (au.nM (w:=wr) (F:=fun _=>False) (x:=fT s.ah[j].name) rfl (by show(⟨(s.ah[j].name).toArray⟩:ByteArray).size<=maxLen;rw[aZ];exact q1));have HB1:=Lh hb;have hlm:=kM.out.2.2;rw[hxa] at c1;clear q0 q1 hjn Dc hxa;generalize s.ah[j].name=nm at HT HF e0;go_wp2_with (at_builtin;go_must (refine bR rfl rfl _ _ 47 rfl 9 i0 _ 1 16 Tryz.underlying47 hi hz0 hz1 hz2 rfl (by decide) (.slice oa j iA) ((ns.take j).map fT) (fT nm) [.string ⟨nm.toArray⟩] 9 rfl rfl HO.out HF.out (by have:=gM.out.lt;omega) rfl (by rw[lu.out];unfold maxLen;omega) (by rw[lu.out];omega) ?_);intro ao cap w5 hon hb5;rw[lu.out] at hon ⊢;have lS:=Lh (aI hon (aI (HB1.out.trans (hb5.mono (by omega))) (show bX w5 w.heap.size s x from(hb5.block _ (by omega)).trans gM.out)));clear hon hb5);refine⟨⟨j+1,by omega,by go_num,lS.out.2.1,Lh lS.out.2.2,Lh ?_⟩,by simp[intOf];omega⟩;rw[HT.out];exact lS.out.1
  ·have HL:Hid (ns.take j=ns/\j=ns.length):=Lh ⟨List.take_of_length_le (by have:=kM.out.2.1;omega),by have:=kM.out.2.1;omega⟩;have HB1:=Lh hb;go_wp2_with fail;go_ret;have h:=HO.out;rw[HL.out.1] at h;obtain⟨x0,h0,h1⟩:=h.onto.sl (by rw[bP iW,List.length_map]);rw[List.length_map,<-HL.out.2] at h0;refine⟨x0,?_,h1,HB1.out⟩;show Ending.returned (.slice oa j iA)=_;rw[h0,aK.val,<-HL.out.2]
theorem Mj(s:aF)(x:bS)(w:World)(hs:aj w (·<w.heap.size) (s.people.map sG.toD) x.people)(hl:s.people.length<=2000000)(hN:∀(j:Nat) (hj:j<s.people.length),w.cell? ⟨x.people.b,x.people.o+j*2,none⟩=some (.string ⟨s.people[j].name.toArray⟩)/\s.people[j].name.length<=maxLen):
  Calls Tryz.prog 40 #[.agg (x.cells s).toArray,.int .i64 4] w fun e w'=>∃x0:aK,e=.returned (.slice x0.a (s.people.map sG.name).length x0.cap)/\aj w' (·<w'.heap.size) ((s.people.map sG.name).map fT) x0/\Below w.heap.size w w':=by
 have uF:=Lh hs.at_;have HN:=Lh hN;have hbx:bX (w.alloc (.cells (x.cells s).toArray 28)) w.heap.size s x:=by unfold bX;rw[af,if_pos rfl]
 have gM:=Lh hbx;obtain⟨i0,hi,hz0,hz1,hz2⟩:=info_parts nO;obtain⟨ns,hns⟩:∃ns,ns=s.people.map sG.name:=⟨_,rfl⟩;have hln:ns.length=s.people.length:=by rw[hns,List.length_map]
 have kM:=Lh (aI hns (aI hln hl));rw[<-hns];clear hs hN hbx hns hln hl;simp only[bS.cells,aK.val] at gM ⊢;go_enter Tryz.func40,Tryz.ntmps40;go_wp2_with fail;go_loopw [5,9] (fun v i wr=>∃j:Nat,j<=s.people.length/\i=.int .i64 j/\Below w.heap.size w wr/\Hid (bX wr w.heap.size s x)/\Hid (fP wr (w.heap.size+1) (fun _=>False) 9 1 v ((ns.take j).map fT))) (fun _ i _=>s.people.length-(intOf i).toNat)
 case atStart=>exact⟨0,Nat.zero_le _,rfl,(Below.refl _ _).alloc (Nat.le_refl _) _,gM,Lh (fP.nil _ _ _ _ _ (fun _ h=>h.elim))⟩
 case round=>
  obtain⟨j,hj,rfl,hb,gM,HO⟩:=hrel;obtain⟨c0,c1,c2,c3,c4⟩:=gM.out.cells;obtain⟨oa,iA,ho⟩:=HO.out.form;subst ho;have hlen:((ns.take j).map fT).length=j:=by rw[List.length_map,List.length_take];have:=kM.out.2.1;omega
  rw[hlen] at HO ⊢;have lu:=Lh hlen;clear hlen;by_cases hlt:j<s.people.length
  ·obtain⟨hxa,hbl⟩:=uF.out (by rw[List.length_map];omega);obtain⟨q0,q1⟩:=HN.out j hlt;have e0:=(hb.cell (p:=⟨x.people.b,x.people.o+j*2,none⟩) hbl).trans q0;have hjn:j<ns.length:=by have:=kM.out.2.1;omega
   have Dc:ns[j]=s.people[j].name:=by have h:=kM.out.1;subst h;simp
   have HT:=Lh (nW hjn);rw[Dc] at HT;have HF:=Lh (au.nM (w:=wr) (F:=fun _=>False) (x:=fT s.people[j].name) rfl (by show(⟨(s.people[j].name).toArray⟩:ByteArray).size<=maxLen;rw[aZ];exact q1));have HB1:=Lh hb;have hlm:=kM.out.2.2;rw[hxa] at c2;clear q0 q1 hjn Dc hxa;generalize s.people[j].name=nm at HT HF e0;go_wp2_with (at_builtin;go_must (refine bR rfl rfl _ _ 47 rfl 9 i0 _ 1 16 Tryz.underlying47 hi hz0 hz1 hz2 rfl (by decide) (.slice oa j iA) ((ns.take j).map fT) (fT nm) [.string ⟨nm.toArray⟩] 9 rfl rfl HO.out HF.out (by have:=gM.out.lt;omega) rfl (by rw[lu.out];unfold maxLen;omega) (by rw[lu.out];omega) ?_);intro ao cap w5 hon hb5;rw[lu.out] at hon ⊢;have lS:=Lh (aI hon (aI (HB1.out.trans (hb5.mono (by omega))) (show bX w5 w.heap.size s x from(hb5.block _ (by omega)).trans gM.out)));clear hon hb5);refine⟨⟨j+1,by omega,by go_num,lS.out.2.1,Lh lS.out.2.2,Lh ?_⟩,by simp[intOf];omega⟩;rw[HT.out];exact lS.out.1
  ·have HL:Hid (ns.take j=ns/\j=ns.length):=Lh ⟨List.take_of_length_le (by have:=kM.out.2.1;omega),by have:=kM.out.2.1;omega⟩;have HB1:=Lh hb;go_wp2_with fail;go_ret;have h:=HO.out;rw[HL.out.1] at h;obtain⟨x0,h0,h1⟩:=h.onto.sl (by rw[bP iW,List.length_map]);rw[List.length_map,<-HL.out.2] at h0;refine⟨x0,?_,h1,HB1.out⟩;show Ending.returned (.slice oa j iA)=_;rw[h0,aK.val,<-HL.out.2]
theorem Mk(s:aF)(x:bS)(w:World)(hs:aj w (·<w.heap.size) (s.groups.map qm.toD) x.groups)(hl:s.groups.length<=2000000)(hN:∀(j:Nat) (hj:j<s.groups.length),w.cell? ⟨x.groups.b,x.groups.o+j*2,none⟩=some (.string ⟨s.groups[j].name.toArray⟩)/\s.groups[j].name.length<=maxLen):
  Calls Tryz.prog 40 #[.agg (x.cells s).toArray,.int .i64 5] w fun e w'=>∃x0:aK,e=.returned (.slice x0.a (s.groups.map qm.name).length x0.cap)/\aj w' (·<w'.heap.size) ((s.groups.map qm.name).map fT) x0/\Below w.heap.size w w':=by
 have uF:=Lh hs.at_;have HN:=Lh hN;have hbx:bX (w.alloc (.cells (x.cells s).toArray 28)) w.heap.size s x:=by unfold bX;rw[af,if_pos rfl]
 have gM:=Lh hbx;obtain⟨i0,hi,hz0,hz1,hz2⟩:=info_parts nO;obtain⟨ns,hns⟩:∃ns,ns=s.groups.map qm.name:=⟨_,rfl⟩;have hln:ns.length=s.groups.length:=by rw[hns,List.length_map]
 have kM:=Lh (aI hns (aI hln hl));rw[<-hns];clear hs hN hbx hns hln hl;simp only[bS.cells,aK.val] at gM ⊢;go_enter Tryz.func40,Tryz.ntmps40;go_wp2_with fail;go_loopw [5,10] (fun v i wr=>∃j:Nat,j<=s.groups.length/\i=.int .i64 j/\Below w.heap.size w wr/\Hid (bX wr w.heap.size s x)/\Hid (fP wr (w.heap.size+1) (fun _=>False) 9 1 v ((ns.take j).map fT))) (fun _ i _=>s.groups.length-(intOf i).toNat)
 case atStart=>exact⟨0,Nat.zero_le _,rfl,(Below.refl _ _).alloc (Nat.le_refl _) _,gM,Lh (fP.nil _ _ _ _ _ (fun _ h=>h.elim))⟩
 case round=>
  obtain⟨j,hj,rfl,hb,gM,HO⟩:=hrel;obtain⟨c0,c1,c2,c3,c4⟩:=gM.out.cells;obtain⟨oa,iA,ho⟩:=HO.out.form;subst ho;have hlen:((ns.take j).map fT).length=j:=by rw[List.length_map,List.length_take];have:=kM.out.2.1;omega
  rw[hlen] at HO ⊢;have lu:=Lh hlen;clear hlen;by_cases hlt:j<s.groups.length
  ·obtain⟨hxa,hbl⟩:=uF.out (by rw[List.length_map];omega);obtain⟨q0,q1⟩:=HN.out j hlt;have e0:=(hb.cell (p:=⟨x.groups.b,x.groups.o+j*2,none⟩) hbl).trans q0;have hjn:j<ns.length:=by have:=kM.out.2.1;omega
   have Dc:ns[j]=s.groups[j].name:=by have h:=kM.out.1;subst h;simp
   have HT:=Lh (nW hjn);rw[Dc] at HT;have HF:=Lh (au.nM (w:=wr) (F:=fun _=>False) (x:=fT s.groups[j].name) rfl (by show(⟨(s.groups[j].name).toArray⟩:ByteArray).size<=maxLen;rw[aZ];exact q1));have HB1:=Lh hb;have hlm:=kM.out.2.2;rw[hxa] at c3;clear q0 q1 hjn Dc hxa;generalize s.groups[j].name=nm at HT HF e0;go_wp2_with (at_builtin;go_must (refine bR rfl rfl _ _ 47 rfl 9 i0 _ 1 16 Tryz.underlying47 hi hz0 hz1 hz2 rfl (by decide) (.slice oa j iA) ((ns.take j).map fT) (fT nm) [.string ⟨nm.toArray⟩] 9 rfl rfl HO.out HF.out (by have:=gM.out.lt;omega) rfl (by rw[lu.out];unfold maxLen;omega) (by rw[lu.out];omega) ?_);intro ao cap w5 hon hb5;rw[lu.out] at hon ⊢;have lS:=Lh (aI hon (aI (HB1.out.trans (hb5.mono (by omega))) (show bX w5 w.heap.size s x from(hb5.block _ (by omega)).trans gM.out)));clear hon hb5);refine⟨⟨j+1,by omega,by go_num,lS.out.2.1,Lh lS.out.2.2,Lh ?_⟩,by simp[intOf];omega⟩;rw[HT.out];exact lS.out.1
  ·have HL:Hid (ns.take j=ns/\j=ns.length):=Lh ⟨List.take_of_length_le (by have:=kM.out.2.1;omega),by have:=kM.out.2.1;omega⟩;have HB1:=Lh hb;go_wp2_with fail;go_ret;have h:=HO.out;rw[HL.out.1] at h;obtain⟨x0,h0,h1⟩:=h.onto.sl (by rw[bP iW,List.length_map]);rw[List.length_map,<-HL.out.2] at h0;refine⟨x0,?_,h1,HB1.out⟩;show Ending.returned (.slice oa j iA)=_;rw[h0,aK.val,<-HL.out.2]
theorem Ey(s:aF)(x:bS)(sort:Int)(w:World)(h:sort=6∨sort=7):
  Calls Tryz.prog 40 #[.agg (x.cells s).toArray,.int .i64 sort] w fun e w'=>∃x0:aK,e=.returned (.slice x0.a (ai s sort).length x0.cap)/\aj w' (·<w'.heap.size) ((ai s sort).map fT) x0/\Below w.heap.size w w':=by
 have one:∀(W:World) (F:Nat->Prop) (l:List Bs),(∀n∈l,n.length<=maxLen)->au W F (l.map fT) (l.map (fun n=>Value.string ⟨n.toArray⟩)):=fun W F l hl=>by
  induction l with
  |nil=>rw[List.map_nil,List.map_nil,au]
  |cons n r ih=>
   rw[List.map_cons,List.map_cons,au];exact⟨[_],_,rfl,by unfold fT;rw[bg];exact⟨rfl,by rw[aZ];exact hl n (by simp)⟩,ih (fun m hm=>hl m (by simp[hm]))⟩
 have ONE:=Lh one;clear one;simp only[bS.cells,aK.val];have e6:ai s 6=(List.range 7).map (fun i=>[100,97,121,UInt8.ofNat (48+i)]):=by unfold ai;rw[if_neg (by decide),if_neg (by decide),if_neg (by decide),if_neg (by decide),if_neg (by decide),if_pos rfl]
 have e7:ai s 7=(List.range 8).map (fun i=>[104,111,117,115,101,UInt8.ofNat (48+i)]):=by unfold ai;rw[if_neg (by decide),if_neg (by decide),if_neg (by decide),if_neg (by decide),if_neg (by decide),if_neg (by decide),if_pos rfl]
 have E6:=Lh e6;have E7:=Lh e7;clear e6 e7;rcases h with rfl|rfl
 ·go_enter Tryz.func40,Tryz.ntmps40;go_wp2_with fail;go_ret;have hb:Below w.heap.size w (w.alloc (.cells #[.slice x.slots.a s.slots.length x.slots.cap,.slice x.ah.a s.ah.length x.ah.cap,.slice x.people.a s.people.length x.people.cap,.slice x.groups.a s.groups.length x.groups.cap,.slice x.lessons.a s.lessons.length x.lessons.cap] 28)):=(Below.refl _ _).alloc (Nat.le_refl _) _;exact⟨⟨some ⟨w.heap.size+1,0,none⟩,w.heap.size+1,0,7⟩,rfl,aj.lit (cs:=(ai s 6).map (fun n=>Value.string ⟨n.toArray⟩)) (by rw[af,if_pos (by simp)];rfl) (ONE.out _ _ _ (by rw[E6.out];decide)) (by simp) (by rw[E6.out];decide) (by decide),hb.alloc (by simp) _⟩
 ·go_enter Tryz.func40,Tryz.ntmps40;go_wp2_with fail;go_ret;have hb:Below w.heap.size w (w.alloc (.cells #[.slice x.slots.a s.slots.length x.slots.cap,.slice x.ah.a s.ah.length x.ah.cap,.slice x.people.a s.people.length x.people.cap,.slice x.groups.a s.groups.length x.groups.cap,.slice x.lessons.a s.lessons.length x.lessons.cap] 28)):=(Below.refl _ _).alloc (Nat.le_refl _) _;exact⟨⟨some ⟨w.heap.size+1,0,none⟩,w.heap.size+1,0,8⟩,rfl,aj.lit (cs:=(ai s 7).map (fun n=>Value.string ⟨n.toArray⟩)) (by rw[af,if_pos (by simp)];rfl) (ONE.out _ _ _ (by rw[E7.out];decide)) (by simp) (by rw[E7.out];decide) (by decide),hb.alloc (by simp) _⟩
theorem mM(s:aF)(x:bS)(sort:Int)(w:World)(hs:dD w (·<w.heap.size) s x)(hsm:SchSmall s):
  Calls Tryz.prog 40 #[.agg (x.cells s).toArray,.int .i64 sort] w fun e w'=>∃x0:aK,e=.returned (.slice x0.a (ai s sort).length x0.cap)/\aj w' (·<w'.heap.size) ((ai s sort).map fT) x0/\Below w.heap.size w w':=by
 by_cases h1:sort=1
 ·subst h1;exact Mg s x w hs.lessons hsm.lessons (fun j hj=>by
   obtain⟨_,_,_,_,h3,h4⟩:=hs.lessons.TN j hj;exact⟨h4.three.1,h3⟩)
 by_cases h2:sort=2
 ·subst h2;exact Mh s x w hs.slots hsm.slots (fun j hj=>by
   obtain⟨_,_,_,h4,h5⟩:=hs.slots.flat ma.bI;have h6:=h5 _ (List.getElem_mem hj);refine⟨(ay.three (h4 j hj)).1,?_⟩;have h7:=h6.1
   rwa [D.fine,aZ] at h7)
 by_cases h3:sort=3
 ·subst h3;exact Mi s x w hs.ah hsm.ah (fun j hj=>by
   obtain⟨_,_,_,_,h3,h4⟩:=hs.ah.TU j hj;exact⟨h4.four.1,h3⟩)
 by_cases h4:sort=4
 ·subst h4;exact Mj s x w hs.people hsm.people (fun j hj=>by
   obtain⟨_,_,h3,h4⟩:=hs.people.TR j hj;exact⟨h4.two.1,h3⟩)
 by_cases h5:sort=5
 ·subst h5;exact Mk s x w hs.groups hsm.groups (fun j hj=>by
   obtain⟨_,_,_,h4,h5⟩:=hs.groups.flat qm.bI;have h6:=h5 _ (List.getElem_mem hj);refine⟨(ay.two (h4 j hj)).1,?_⟩;have h7:=h6.1
   rwa [D.fine,aZ] at h7)
 by_cases h6:sort=6∨sort=7
 ·exact Ey s x sort w h6
 have e:ai s sort=[]:=by unfold ai;rw[if_neg h1,if_neg h2,if_neg h3,if_neg h4,if_neg h5,if_neg (by omega),if_neg (by omega)]
 rw[e];exact Cr s x sort w (by omega)
theorem Es(s:aF)(x:bS)(sort:Int)(w:World)(hs:dD w (·<w.heap.size) s x)(hsm:SchSmall s):
  Calls Tryz.prog 51 #[.agg (x.cells s).toArray,.int .i64 sort] w fun e w'=>e=.returned (.int .i64 (bA s sort))/\Below w.heap.size w w':=by
 have cz:Below w.heap.size w (w.alloc (.cells (x.cells s).toArray 28)):=(Below.refl _ _).alloc (Nat.le_refl _) _;have HC:=Lh (mM s x sort _ (hs.later cz cz.size) hsm);have HB:=Lh cz;have HR:Hid (bA s sort=(ai s sort).length):=Lh rfl;clear hs cz;generalize bA s sort=res at HR ⊢;simp only[bS.cells,aK.val] at HC HB ⊢;go_enter Tryz.func51,Tryz.ntmps51;go_wp2_with fail;refine HC.out.mono ?_;rintro e w1 ⟨x0,rfl,hx0,hb⟩;have HB1:=Lh (HB.out.trans (hb.mono HB.out.size));clear hb hx0;go_wp2_with fail;go_ret;exact⟨aQ (by rw[HR.out]),HB1.out⟩
def bW(W:World)(b:Nat)(f:ae)(y:aC):Prop:=W.heap[b]?=some (.cells (y.cells f).toArray 64 (0,0))
theorem bW.below(h:bW W b f y)(hb:Below W.heap.size W W'):bW W' b f y:=(hb.block _ (gS h).1).trans h
theorem bW.lt(h:bW W b f y):b<W.heap.size:=(gS h).1
theorem bW.cells(h:bW W b f y):W.cell? ⟨b,0,none⟩=some (.int .i64 f.kind)/\W.cell? ⟨b,1,none⟩=some (.string ⟨f.name.toArray⟩)/\W.cell? ⟨b,2,none⟩=some (.int .i64 f.n)/\W.cell? ⟨b,3,none⟩=some (.slice y.t.a f.terms.length y.t.cap)/\W.cell? ⟨b,4,none⟩=some (.slice y.b.a f.binds.length y.b.cap)/\W.cell? ⟨b,5,none⟩=some (.slice y.l.a f.l.length y.l.cap):=
 ⟨cH h rfl,cH h rfl,cH h rfl,cH h rfl,cH h rfl,cH h rfl⟩
theorem Iw(m:Nat):∀(f:ae) (y:aC) (w:World),f.size<=m->f.size<=2000000->aB w (·<w.heap.size) f y->
  Calls Tryz.prog 39 #[gB (f,y)] w fun e w'=>∃n:Int,e=.returned (.int .i64 n)/\Below w.heap.size w w':=by
 induction m with
 |zero=>intro f _ _ h;have:=f.size_pos;omega
 |succ m ih=>
  rintro⟨kind,name,n,terms,binds,fl⟩ y w hm hsz hy;rw[ae.size] at hm hsz;have hll:=di fl;have cz:Below w.heap.size w (w.alloc (.cells (y.cells (.mk kind name n terms binds fl)).toArray 64)):=(Below.refl _ _).alloc (Nat.le_refl _) _;have hby:bW (w.alloc (.cells (y.cells (.mk kind name n terms binds fl)).toArray 64)) w.heap.size (.mk kind name n terms binds fl) y:=by unfold bW;rw[af,if_pos rfl]
  have zZ:Hid (∀(j:Nat) (hj:j<fl.length),∃y1:aC,aB w (·<w.heap.size) fl[j] y1/\ay w y.l.b (y.l.o+j*6) (y1.cells fl[j])):=Lh (fun j hj=>hy.l.qK j hj);have Di:Hid (gT (·<w.heap.size) y.l.a y.l.b y.l.o fl.length):=Lh (by have:=hy.l.at_;rw[List.length_map] at this;exact this);have Aa:=Lh (fun(j:Nat) (hj:j<fl.length) (y1:aC) (W:World) (hW:Below w.heap.size w W) (h1:aB w (·<w.heap.size) fl[j] y1)=>ih fl[j] y1 W (by have:=aT fl j hj;omega) (by have:=aT fl j hj;omega) (h1.later hW hW.size));have HB:=Lh (aI cz hby);clear ih hy cz hby;simp only[gB,aC.cells,aK.val,ae.kind,ae.name,ae.n,ae.terms,ae.binds,ae.l] at HB ⊢;go_enter Tryz.func39,Tryz.ntmps39;go_wp2_with fail;go_loopw [3,4] (fun nn i wr=>∃(j:Nat) (q:Int),j<=fl.length/\i=.int .i64 j/\nn=.int .i64 q/\Below w.heap.size w wr/\Hid (bW wr w.heap.size (.mk kind name n terms binds fl) y)) (fun _ i _=>fl.length-(intOf i).toNat)
  case atStart=>exact⟨0,1,Nat.zero_le _,rfl,rfl,HB.out.1,Lh HB.out.2⟩
  case round=>
   obtain⟨j,q,hj,rfl,rfl,hb,gM⟩:=hrel;have HB0:=Lh hb;obtain⟨_,_,_,_,_,b5⟩:=gM.out.cells;simp only[ae.l] at b5;by_cases hlt:j<fl.length
   ·obtain⟨y1,hy1,hy2⟩:=zZ.out j hlt;obtain⟨hxa,kg⟩:=Di.out (by omega);have fZ:=Lh (Aa.out j hlt y1 wr hb hy1);obtain⟨e0,e1,e2,e3,e4,e5⟩:=(hy2.agree (ag hb) kg).six;rw[hxa] at b5;clear hy1 hy2 kg hxa hb;generalize fl[j]=fe at fZ e0 e1 e2 e3 e4 e5;obtain⟨mU,mV,n1,jX,jR,Jv⟩:=fe;simp only[gB,aC.cells,aK.val,ae.kind,ae.name,ae.n,ae.terms,ae.binds,ae.l] at fZ e0 e1 e2 e3 e4 e5;go_wp2_with fail;refine fZ.out.mono ?_;rintro e w1 ⟨q1,rfl,hb1⟩;have pK:=Lh (aI (HB0.out.trans (hb1.mono HB0.out.size)) (gM.out.below hb1));clear hb1 e0 e1 e2 e3 e4 e5 b5;go_wp2_with fail;exact⟨⟨j+1,_,by omega,by go_num,rfl,pK.out.1,Lh pK.out.2⟩,by simp[intOf];omega⟩
   ·clear hb;go_wp2_with fail;go_ret;exact⟨q,rfl,HB0.out⟩
theorem Ip(m:Nat):∀(f:ae) (y:aC) (w:World),f.size<=m->f.size<=2000000->aB w (·<w.heap.size) f y->
  Calls Tryz.prog 21 #[gB (f,y)] w fun e w'=>∃b:Bool,e=.returned (.bool b)/\Below w.heap.size w w':=by
 induction m with
 |zero=>intro f _ _ h;have:=f.size_pos;omega
 |succ m ih=>
  rintro⟨kind,name,n,terms,binds,fl⟩ y w hm hsz hy;have hss:=hsz;rw[ae.size] at hm hsz;have hll:=di fl;have cz:Below w.heap.size w (w.alloc (.cells (y.cells (.mk kind name n terms binds fl)).toArray 64)):=(Below.refl _ _).alloc (Nat.le_refl _) _;have hby:bW (w.alloc (.cells (y.cells (.mk kind name n terms binds fl)).toArray 64)) w.heap.size (.mk kind name n terms binds fl) y:=by unfold bW;rw[af,if_pos rfl]
  have zZ:Hid (∀(j:Nat) (hj:j<fl.length),∃y1:aC,aB w (·<w.heap.size) fl[j] y1/\ay w y.l.b (y.l.o+j*6) (y1.cells fl[j])):=Lh (fun j hj=>hy.l.qK j hj);have Di:Hid (gT (·<w.heap.size) y.l.a y.l.b y.l.o fl.length):=Lh (by have:=hy.l.at_;rw[List.length_map] at this;exact this);have sF:=Lh (Iw _ (.mk kind name n terms binds fl) y _ (Nat.le_refl _) hss (hy.later cz cz.size));have Aa:=Lh (fun(j:Nat) (hj:j<fl.length) (y1:aC) (W:World) (hW:Below w.heap.size w W) (h1:aB w (·<w.heap.size) fl[j] y1)=>ih fl[j] y1 W (by have:=aT fl j hj;omega) (by have:=aT fl j hj;omega) (h1.later hW hW.size));have HB:=Lh (aI cz hby);obtain⟨b0,b1,b2,b3,b4,b5⟩:=hby.cells;have h1:(4<(fl.length:Int)/\4<fl.length)∨(decide (4<(fl.length:Int))=false):=by
   by_cases h:4<fl.length
   ·exact .inl ⟨by omega,h⟩
   ·exact .inr (decide_eq_false (by omega))
  have h2:(4<(terms.length:Int)/\4<terms.length)∨(decide (4<(terms.length:Int))=false):=by
   by_cases h:4<terms.length
   ·exact .inl ⟨by omega,h⟩
   ·exact .inr (decide_eq_false (by omega))
  have h3:(10<(binds.length:Int)/\10<binds.length)∨(decide (10<(binds.length:Int))=false):=by
   by_cases h:10<binds.length
   ·exact .inl ⟨by omega,h⟩
   ·exact .inr (decide_eq_false (by omega))
  have H1:=Lh h1;have H2:=Lh h2;have H3:=Lh h3;clear ih hy cz hby h1 h2 h3 hss;simp only[gB,aC.cells,aK.val,ae.kind,ae.name,ae.n,ae.terms,ae.binds,ae.l] at HB sF b0 b1 b2 b3 b4 b5 ⊢;go_enter Tryz.func21,Tryz.ntmps21;rcases H1.out with⟨p1,_⟩|p1
  ·go_wp2_with fail;go_ret;exact⟨false,rfl,HB.out.1⟩
  rcases H2.out with⟨p2,_⟩|p2
  ·go_wp2_with fail;go_ret;exact⟨false,rfl,HB.out.1⟩
  rcases H3.out with⟨p3,_⟩|p3
  ·go_wp2_with fail;go_ret;exact⟨false,rfl,HB.out.1⟩
  go_wp2_with fail;refine sF.out.mono ?_;rintro e w1 ⟨q1,rfl,hb1⟩;have pK:=Lh (aI (HB.out.1.trans (hb1.mono HB.out.1.size)) (HB.out.2.below hb1));clear hb1 b0 b1 b2 b3 b4 b5;by_cases hq:(300:Int)<q1
  ·go_wp2_with fail;go_ret;exact⟨false,rfl,pK.out.1⟩
  have hq':decide ((300:Int)<q1)=false:=decide_eq_false hq;clear hq;go_wp2_with fail;go_loopw [3] (fun i wr=>∃j:Nat,j<=fl.length/\i=.int .i64 j/\Below w.heap.size w wr/\Hid (bW wr w.heap.size (.mk kind name n terms binds fl) y)) (fun i _=>fl.length-(intOf i).toNat)
  case atStart=>exact⟨0,Nat.zero_le _,rfl,pK.out.1,Lh pK.out.2⟩
  case round=>
   obtain⟨j,hj,rfl,hb,gM⟩:=hrel;have HB0:=Lh hb;obtain⟨_,_,_,_,_,b5⟩:=gM.out.cells;simp only[ae.l] at b5;by_cases hlt:j<fl.length
   ·obtain⟨y1,hy1,hy2⟩:=zZ.out j hlt;obtain⟨hxa,kg⟩:=Di.out (by omega);have fZ:=Lh (Aa.out j hlt y1 wr hb hy1);obtain⟨e0,e1,e2,e3,e4,e5⟩:=(hy2.agree (ag hb) kg).six;rw[hxa] at b5;clear hy1 hy2 kg hxa hb;generalize fl[j]=fe at fZ e0 e1 e2 e3 e4 e5;obtain⟨mU,mV,n1,jX,jR,Jv⟩:=fe;simp only[gB,aC.cells,aK.val,ae.kind,ae.name,ae.n,ae.terms,ae.binds,ae.l] at fZ e0 e1 e2 e3 e4 e5;go_wp2_with fail;refine fZ.out.mono ?_;rintro e w1 ⟨q1,rfl,hb1⟩;have pK:=Lh (aI (HB0.out.trans (hb1.mono HB0.out.size)) (gM.out.below hb1));clear hb1 e0 e1 e2 e3 e4 e5 b5;cases q1
    ·go_wp2_with fail;go_ret;exact⟨false,rfl,pK.out.1⟩
    ·go_wp2_with fail;exact⟨⟨j+1,by omega,by go_num,pK.out.1,Lh pK.out.2⟩,by simp[intOf];omega⟩
   ·clear hb;go_wp2_with fail;go_ret;exact⟨true,rfl,HB0.out⟩
end Go.Proofs.YtncnnbmeacpboaaGreatDoor
namespace Go.aa
open Go.RowKit
variable {P:Program}
variable {w W W' W0:World} {l:List ae} {b cap j B C lo sz H:Nat} {cs:List Value} {T e t:TypeId} {fz:Nat×Nat} {F:Nat->Prop} {xs:List D} {f:ae} {kind n:Int} {name:Bs} {a binds bs:List aD} {want:Option (List Int)} {out:List Int} {terms:List bH} {met:List Bs} {r:List bq} {x:bq} {s:aF} {y:aC}
def kJ(W:World)(H:Nat)(t e:TypeId)(sz lo:Nat)(xs:List D)(T:Nat->Prop):Prop:=
 ∃(v:Value) (r:Option Nat),W.heap[H]?=some (.cells #[v] t (0,0))/\T H/\(∀k,r=some k->T k/\k≠H)/\(∀k,T k->lo<=k/\k<W.heap.size)/\aa.Own W (fun k=>T k/\k≠H/\r≠some k) e sz v r xs
theorem kJ.kept{W W':World}{H:Nat}{t e:TypeId}{sz lo:Nat}{xs:List D}{T S:Nat->Prop}(h:kJ W H t e sz lo xs T)(hm:Mod S W W')(hS:∀k,S k->¬T k):kJ W' H t e sz lo xs T:=by
 obtain⟨v,r,h1,h2,h3,h4,h5⟩:=h;exact⟨v,r,av h1 hm (fun h=>hS _ h h2),h2,h3,fun k hk=>⟨(h4 k hk).1,Nat.lt_of_lt_of_le (h4 k hk).2 hm.size⟩,h5.kept hm (fun k hk hk'=>hS k hk' hk.1) (fun k hk hk'=>hS k hk' (h3 k hk).1)⟩
theorem kJ.take{T S:Nat->Prop}(h:kJ W H t e sz lo xs T)(hS:∀k,S k->lo<=k/\k<W.heap.size/\¬T k):kJ W H t e sz lo xs (fun k=>T k∨S k):=by
 obtain⟨v,r,h1,h2,h3,h4,h5⟩:=h;refine⟨v,r,h1,.inl h2,fun k hk=>⟨.inl (h3 k hk).1,(h3 k hk).2⟩,fun k hk=>?_,h5.widen (fun k hk=>⟨.inl hk.1,hk.2⟩) (fun k hk hk'=>hk'.2.2 hk) (fun k hk=>?_)⟩
 ·rcases hk with hk|hk
  ·exact h4 k hk
  ·exact⟨(hS k hk).1,(hS k hk).2.1⟩
 ·rcases hk.1 with hk|hk
  ·exact(h4 k hk).2
  ·exact(hS k hk).2.1
theorem kJ.read{W:World}{H:Nat}{t e:TypeId}{sz lo:Nat}{xs:List D}{T:Nat->Prop}(h:kJ W H t e sz lo xs T)(hw:bO xs=xs.length*sz):∃x:aK,W.heap[H]?=some (.cells #[x.val xs.length] t (0,0))/\aj W T xs x:=by
 obtain⟨v,r,h1,h2,h3,h4,h5⟩:=h;obtain⟨x,e,hx⟩:=bg.cO.1 (h5.read (G:=T) (fun k hk=>hk.1) (fun k hk=>(h3 k hk).1) hw);simp only[List.cons.injEq,and_true] at e;exact⟨x,by rw[h1,e],hx⟩
theorem kJ.low{T:Nat->Prop}(h:kJ W H t e sz lo xs T):∀k,T k->lo<=k/\k<W.heap.size:=by
 obtain⟨_,_,_,_,_,h4,_⟩:=h;exact h4
end Go.aa
