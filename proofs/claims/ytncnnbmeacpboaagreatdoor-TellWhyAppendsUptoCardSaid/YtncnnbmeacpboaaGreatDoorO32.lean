/- Parts of the proof. -/
import Derived.Test.YtncnnbmeacpboaaGreatDoorO31
import Derived.Test.YtncnnbmeacpboaaGreatDoorO30
set_option maxHeartbeats 2000000
set_option maxRecDepth 100000
set_option linter.unusedVariables false
set_option linter.unusedSimpArgs false
namespace Go.Proofs.YtncnnbmeacpboaaGreatDoor
open Go.RowKit Go.aa
attribute [local go_sem] Oper.semAt_some
variable {w W W':World} {l:List ag} {b cap j B C lo sz H:Nat} {cs:List Value} {T e t:TypeId} {fz:Nat×Nat} {F:Nat->Prop} {xs:List D} {f:ag} {kind n:Int} {name:Bs} {a binds bs:List aH} {want:Option (List Int)} {out:List Int} {terms:List bV} {met:List Bs} {r:List aV} {x:aV} {s:ax} {y:aA}
def mf(f:ag):Prop:=f.terms.length<=2000000/\f.binds.length<=2000000/\f.l.length<=2000000/\f.name.length<=4000000/\(∀t∈f.terms,t.name.length<=4000000)/\(∀b∈f.binds,b.name.length<=4000000)
structure iV (f:ag):Prop where
 size:f.size<=2000000
 nodes:∀g∈aN f,mf g
theorem gK.qC{fn:Func}{R:Ending->World->Prop}{ds:List Nat}{c:Int}{tm:Array Value}(h:gK w W ds c)(hres:∀W',W'.cell? ⟨w.heap.size+1,0,none⟩=some (.int .i64 c)->(results fn tm).run Tryz.prog W'=.ok (.int .i64 c) W')(hR:∀W',Below w.heap.size w W'->R (.returned (.int .i64 c)) W'):
  LeavesInM Fence.wide 0 Tryz.prog fn tm R (ds.map aa.mark) .returning W:=by
 refine dY (v:=.int .i64 c) ds W h.nodup (fun d hd=>(h.marks d hd).1) (fun W' hm'=>?_);have hx':W'.heap[w.heap.size+1]?=some (.cells #[.int .i64 c] 39 (0,0)):=ai h.res hm' (fun hk=>by have:=(h.marks _ hk).2;omega);exact⟨hres W' (cH hx' rfl),hR _ (h.below.trans (hm'.below h.below.size (fun k hk=>by have:=(h.marks _ hk).2;omega)))⟩
theorem tF{i:Nat}(hi:i<l.length):(l.take (i+1)).all aD=((l.take i).all aD&&aD l[i]):=by
 rw[List.take_succ_eq_append_getElem hi,List.all_append];simp
theorem mV(f:ag)(x:aA)(w:World)(hx:aJ w (·<w.heap.size) f x)(hf:iV f)(hg:GG w):
  Calls Tryz.prog 74 #[ja (f,x)] w fun e w'=>e=.returned (.int .i64 (aX f))/\Below w.heap.size w w':=by
 obtain⟨ns,h1,h2,h3⟩:=uC f.size f x w _ (Nat.le_refl _) hf.size hx;have hln:ns.length=(aN f).length:=by rw[<-h1,List.length_map]
 have hit:=fun W0 tb hag htb=>xg f x ns w _ h3 W0 tb hag htb;have HIT:=Lh hit;have AR:=Lh (fun W=>A8 f x W);have TV:=Lh (fun(i:Nat) (hi:i<ns.length) (W:World) (hb:Below w.heap.size w W)=>(by
  have hi':i<(aN f).length:=by omega
  have e:(iZ ns i).1=(aN f)[i]:=by
   unfold iZ;rw[List.getElem?_eq_getElem hi];simp only[<-h1,Option.getD_some,List.getElem_map]
  have hin:aJ w (·<w.heap.size) (iZ ns i).1 (iZ ns i).2:=by
   unfold iZ;rw[List.getElem?_eq_getElem hi];exact h2 _ (List.getElem_mem hi)
  refine⟨hi',e,zF (iZ ns i).1 (iZ ns i).2 W (hin.later hb hb.size) (hg.below hb) ?_⟩;rw[e];exact hf.nodes _ (List.getElem_mem hi'):∃hi':i<(aN f).length,(iZ ns i).1=(aN f)[i]/\Calls Tryz.prog 117 #[ja (iZ ns i)] W fun e w'=>e=.returned (.bool (aD (iZ ns i).1))/\Below W.heap.size W w'))
 have vE:=Lh (fun(W:World) (hb:Below w.heap.size w W)=>Co f x W hf.size (hx.later hb hb.size));have Rw:=Lh (fun(W:World) (hb:Below w.heap.size w W)=>Cc f.size f x W (Nat.le_refl _) hf.size (hx.later hb hb.size));have hcs:aX f=if(aN f).all aD=false then 1 else if 256<f.size∨24<f.depth then 2 else 0:=rfl
 have AU:=Lh hcs;have hfs:=hf.size;have Vn:=ag.mR f;clear hit h1 h2 h3 hx hf hg hcs;obtain⟨kind,name,n,terms,binds,fl⟩:=f;generalize Ut:aN (.mk kind name n terms binds fl)=Mx at*;generalize ag.size (.mk kind name n terms binds fl)=sz at*;generalize ag.depth (.mk kind name n terms binds fl)=dp at*;generalize aX (.mk kind name n terms binds fl)=fc at*;clear Ut;simp only[ja,aA.cells,aB.val,ag.kind,ag.name,ag.n,ag.terms,ag.binds,ag.l] at HIT AR vE Rw ⊢;refine(callsIn_wide (n:=0)).1 (callsIn_of_wp_marks Tryz.func74 rfl trivial ?_);simp only[Tryz.ntmps74,List.size_toArray,List.length_cons,List.length_nil,Nat.reduceAdd,Nat.reduceSub,Array.replicate_succ,Array.replicate_zero,List.push_toArray,List.append_toArray,List.nil_append,List.cons_append]
 gi_wp2_with fail
 refine⟨trivial,rfl,(callsIn_wide.2 (AR.out _)).mono ?_⟩;rintro e w' ⟨rfl,rfl⟩
 gi_wp2_with fail
 generalize hW3:(((w.alloc _).alloc _).alloc _)=W3;have hsz:W3.heap.size=w.heap.size+3:=by rw[<-hW3];simp
 have hb3:Below w.heap.size w W3:=by rw[<-hW3];exact(((Below.refl _ _).alloc (Nat.le_refl _) _).alloc (by simp) _).alloc (by simp;omega) _
 have g0:W3.heap[w.heap.size]?=some (.cells #[.int .i64 kind,.string ⟨name.toArray⟩,.int .i64 n,.slice x.t.a terms.length x.t.cap,.slice x.b.a binds.length x.b.cap,.slice x.l.a fl.length x.l.cap] 64 (0,0)):=by rw[<-hW3];simp only[ae,World.size_alloc];repeat(first|rw[if_pos trivial]|rw[if_pos (by omega)]|rw[if_neg (by omega)])
 have g1:W3.heap[w.heap.size+1]?=some (.cells #[.int .i64 0] 39 (0,0)):=by rw[<-hW3];simp only[ae,World.size_alloc];repeat(first|rw[if_pos trivial]|rw[if_pos (by omega)]|rw[if_neg (by omega)])
 have g2:W3.heap[w.heap.size+1+1]?=some (.cells #[.int .i64 kind,.string ⟨name.toArray⟩,.int .i64 n,.slice x.t.a terms.length x.t.cap,.slice x.b.a binds.length x.b.cap,.slice x.l.a fl.length x.l.cap] 64 (0,0)):=by rw[<-hW3];simp only[ae,World.size_alloc];repeat(first|rw[if_pos trivial]|rw[if_pos (by omega)]|rw[if_neg (by omega)])
 have hit:=HIT.out W3 (w.heap.size+1+1) (af hb3) g2;have G:=Lh (aI hsz (aI hb3 (aI g0 g1)));have HI2:=Lh hit;clear hW3 hsz hb3 g0 g1 g2 hit HIT AR;refine ze (gf:=154) (lb:=#[.pointer (some ⟨w.heap.size+1+1,0,none⟩)]) rfl (enters_of Tryz.func154 (by kernel_rfl) rfl)
  HI2.out (fun _ _=>rfl) (fun k=>k=w.heap.size+1) (fun k hk=>by have:=G.out.1;omega) (fun k hk=>by have:=G.out.1;omega)
  (fun i W=>W.heap[w.heap.size+1]?=some (.cells #[.int .i64 0] 39 (0,0))/\(Mx.take i).all aD=true)
  (fun c i W=>c=.ret/\W.heap[w.heap.size+1]?=some (.cells #[.int .i64 1] 39 (0,0))/\Mx.all aD=false)
  ?hI ?hIx ⟨G.out.2.2.2,rfl⟩ (fun l i a' W=>∃bx:Nat,bx≠l/\W.heap[bx]?=some (.cells ((iZ ns i).2.cells (iZ ns i).1).toArray 64 (0,0))/\a'= { tmps:=#[.agg #[.int .i64 kind,.string ⟨name.toArray⟩,.int .i64 n,.slice x.t.a terms.length x.t.cap,.slice x.b.a binds.length x.b.cap,.slice x.l.a fl.length x.l.cap],.pointer (some ⟨w.heap.size,0,none⟩),.pointer (some ⟨w.heap.size+1,0,none⟩),.pointer (some ⟨bx,0,none⟩),.agg #[.int .i64 kind,.string ⟨name.toArray⟩,.int .i64 n,.slice x.t.a terms.length x.t.cap,.slice x.b.a binds.length x.b.cap,.slice x.l.a fl.length x.l.cap],.func (.func 154) #[] #[.pointer (some ⟨w.heap.size+1+1,0,none⟩)],ja (iZ ns i),undef,undef,undef,undef,undef,undef,undef,undef,undef,undef,undef],defers:=[]}) ?hAx ?assign ?body ?done ?stop
 case hI=>exact(di.box (T:=fun k=>k=w.heap.size+1) (B:=w.heap.size+1) (o:=fun _=>.cells #[.int .i64 0] 39 (0,0)) rfl).and di.pure
 case hIx=>exact fun c i A B S h hm hS=>⟨h.1,ai h.2.1 hm (fun hk=>(hS _ hk).2 rfl),h.2.2⟩
 case hAx=>exact fun l i a' A B ⟨bx,h1,h2,h3⟩ hm=>⟨bx,h1,ai h2 hm h1,h3⟩
 case assign=>
  rintro l i W K hi hm hI hl hK;have HK:=Lh hK;have HI3:=Lh hI;clear hK hI;generalize iZ ns i=nd at HK ⊢;obtain⟨⟨rP,rU,n1,nz,mQ,KY⟩,y⟩:=nd;simp only[ja,aA.cells,aB.val,ag.kind,ag.name,ag.n,ag.terms,ag.binds,ag.l] at HK ⊢
  gi_wp2_with fail
  refine HK.out _ _ ((aa.Mod.refl _ _).alloc _) ⟨((Below.refl W.heap.size W).alloc (Nat.le_refl _) _).block _ (gS HI3.out.1).1 |>.trans HI3.out.1,HI3.out.2⟩ ⟨W.heap.size,by omega,boxed (B:=W.heap.size+1) (Below.refl _ _) (by omega),rfl⟩
 case body=>
  rintro l i a' W hi hm ⟨hrb,hgo⟩ ⟨bx,hbl,hbx,rfl⟩ hT hwl hnl;have hbW:Below w.heap.size w W:=G.out.2.1.trans (hm.below (by have:=G.out.1;omega) (fun k hk=>by omega));obtain⟨hi',hnd,hcl⟩:=TV.out i hi W hbW;have hgi:=tF hi';have hfa:aD Mx[i]=false->Mx.all aD=false:=fun h=>by
   rw[List.all_eq_false];exact⟨Mx[i],List.getElem_mem hi',by simp[h]⟩
  rw[<-hnd] at hgi hfa;have HH:=Lh (aI hm (aI hrb (aI hgo (aI hgi hfa))));have iP:=Lh hcl;clear hm hrb hgo hcl hnd hbW hgi hfa;generalize iZ ns i=nd at iP HH hbx ⊢;generalize aD nd.1=v at iP HH;obtain⟨⟨rP,rU,n1,nz,mQ,KY⟩,y⟩:=nd;simp only[ja,aA.cells,aB.val,ag.kind,ag.name,ag.n,ag.terms,ag.binds,ag.l] at iP hbx ⊢;have b0:W.cell? ⟨bx,0,none⟩=some (.int .i64 rP):=cH hbx rfl;have b1:W.cell? ⟨bx,1,none⟩=some (.string ⟨rU.toArray⟩):=cH hbx rfl;have b2:W.cell? ⟨bx,2,none⟩=some (.int .i64 n1):=cH hbx rfl;have b3:W.cell? ⟨bx,3,none⟩=some (.slice y.t.a nz.length y.t.cap):=cH hbx rfl;have b4:W.cell? ⟨bx,4,none⟩=some (.slice y.b.a mQ.length y.b.cap):=cH hbx rfl;have b5:W.cell? ⟨bx,5,none⟩=some (.slice y.l.a KY.length y.l.cap):=cH hbx rfl;clear hbx
  gi_wp2_with fail
  refine⟨trivial,rfl,CallsIn.inRound l ((callsIn_wide.2 iP.out).mono ?_)⟩;rintro e w1 ⟨rfl,hb1⟩;have vW:w1.heap[w.heap.size+1]?=some (.cells #[.int .i64 0] 39 (0,0)):=(hb1.block _ (gS HH.out.2.1).1).trans HH.out.2.1;have e1:w1.frozen? ⟨w.heap.size+1,0,none⟩=false:=fH vW;have e2:w1.cell? ⟨w.heap.size+1,0,none⟩=some (.int .i64 0):=cH vW rfl;have HI3:=Lh (aI vW hb1);clear vW hb1 b0 b1 b2 b3 b4 b5;cases v
  ·gi_wp2_with fail
   refine⟨(aa.Mod.of_below (S:=fun k=>k=w.heap.size+1) HI3.out.2).setCell (p:=⟨w.heap.size+1,0,none⟩) (fun _=>rfl) _,rfl,?_,HH.out.2.2.2.2 (by first|rfl|trivial)⟩;rw[aC _ HI3.out.1];rfl
  ·gi_wp2_with fail
   refine⟨aa.Mod.of_below (S:=fun k=>k=w.heap.size+1) HI3.out.2,HI3.out.1,?_⟩;rw[HH.out.2.2.2.1,HH.out.2.2.1];rfl
 case stop=>
  rintro D0 c i W hD0 hDlt hnD hi0 him hm ⟨rfl,hrb,hgo⟩ hdd;have hbW:Below w.heap.size w W:=G.out.2.1.trans (hm.below (by have:=G.out.1;omega) (fun k hk=>by omega));have E:gK w W [D0] 1:=⟨hbW,hrb,by simp,fun d hd=>by simp at hd;subst hd;exact⟨hdd,by have:=G.out.1;omega⟩⟩;have HE:=Lh E;have BJ:Hid (fc=1):=Lh (by rw[AU.out,if_pos hgo]);clear E hbW hrb hdd hm hgo
  gi_wp2_with fail
  exact HE.out.qC (fun W' hc=>by simp[results,Tryz.results74,go_sem,hc]) (fun W' hb=>⟨by rw[BJ.out],hb⟩)
 case done=>
  rintro D0 W hD0 hDlt hnD hm ⟨hrb,hgo⟩ hdd;have hbW:Below w.heap.size w W:=G.out.2.1.trans (hm.below (by have:=G.out.1;omega) (fun k hk=>by omega));have Ki:W.heap[w.heap.size]?=some (.cells #[.int .i64 kind,.string ⟨name.toArray⟩,.int .i64 n,.slice x.t.a terms.length x.t.cap,.slice x.b.a binds.length x.b.cap,.slice x.l.a fl.length x.l.cap] 64 (0,0)):=ai G.out.2.2.1 hm (by omega);have E:gK w W [D0] 0:=⟨hbW,hrb,by simp,fun d hd=>by simp at hd;subst hd;exact⟨hdd,by have:=G.out.1;omega⟩⟩;have hall:Mx.all aD=true:=by rw[hln,List.take_length] at hgo;exact hgo
  have BJ:Hid (fc=if 256<sz∨24<dp then 2 else 0):=Lh (by rw[AU.out,hall];rfl);have HE:=Lh (aI E Ki);clear hrb hdd hm hgo hall E;have b0:W.cell? ⟨w.heap.size,0,none⟩=some (.int .i64 kind):=cH Ki rfl;have b1:W.cell? ⟨w.heap.size,1,none⟩=some (.string ⟨name.toArray⟩):=cH Ki rfl;have b2:W.cell? ⟨w.heap.size,2,none⟩=some (.int .i64 n):=cH Ki rfl;have b3:W.cell? ⟨w.heap.size,3,none⟩=some (.slice x.t.a terms.length x.t.cap):=cH Ki rfl;have b4:W.cell? ⟨w.heap.size,4,none⟩=some (.slice x.b.a binds.length x.b.cap):=cH Ki rfl;have b5:W.cell? ⟨w.heap.size,5,none⟩=some (.slice x.l.a fl.length x.l.cap):=cH Ki rfl;clear Ki
  gi_wp2_with fail
  refine⟨trivial,rfl,(callsIn_wide.2 (vE.out W hbW)).mono ?_⟩;rintro e w1 ⟨rfl,hb1⟩;have hE1:=HE.out.1.later hb1;have zM:=(hb1.block _ (gS HE.out.2).1).trans HE.out.2;have hr0:w1.cell? ⟨w.heap.size+1,0,none⟩=some (.int .i64 0):=cH hE1.res rfl;have hr1:w1.frozen? ⟨w.heap.size+1,0,none⟩=false:=fH hE1.res;have wW:=Lh (aI hE1 (hbW.trans (hb1.mono hbW.size)));clear b0 b1 b2 b3 b4 b5 hE1 hb1 hbW;by_cases hs:(256:Int)<(sz:Int)
  ·gi_wp2_with fail
   refine⟨trivial,?_⟩
   gi_wp2_with fail
   exact(wW.out.1.set 2).qC (fun W' hc=>by simp[results,Tryz.results74,go_sem,hc]) (fun W' hb=>⟨by rw[BJ.out,if_pos (.inl (by omega))],hb⟩)
  ·have hs':decide ((256:Int)<(sz:Int))=false:=by simpa using hs
   have b0:w1.cell? ⟨w.heap.size,0,none⟩=some (.int .i64 kind):=cH zM rfl;have b1:w1.cell? ⟨w.heap.size,1,none⟩=some (.string ⟨name.toArray⟩):=cH zM rfl;have b2:w1.cell? ⟨w.heap.size,2,none⟩=some (.int .i64 n):=cH zM rfl;have b3:w1.cell? ⟨w.heap.size,3,none⟩=some (.slice x.t.a terms.length x.t.cap):=cH zM rfl;have b4:w1.cell? ⟨w.heap.size,4,none⟩=some (.slice x.b.a binds.length x.b.cap):=cH zM rfl;have b5:w1.cell? ⟨w.heap.size,5,none⟩=some (.slice x.l.a fl.length x.l.cap):=cH zM rfl;have Pz:=Lh (Rw.out w1 wW.out.2);clear zM
   gi_wp2_with fail
   refine⟨trivial,rfl,(callsIn_wide.2 Pz.out).mono ?_⟩;rintro e w2 ⟨rfl,hb2⟩;have hE2:=wW.out.1.later hb2;have hr2:w2.cell? ⟨w.heap.size+1,0,none⟩=some (.int .i64 0):=cH hE2.res rfl;have hr3:w2.frozen? ⟨w.heap.size+1,0,none⟩=false:=fH hE2.res;have HE2:=Lh hE2;clear b0 b1 b2 b3 b4 b5 hE2 hb2 hr0 hr1;by_cases hd:(24:Int)<(dp:Int)
   ·gi_wp2_with fail
    exact(HE2.out.set 2).qC (fun W' hc=>by simp[results,Tryz.results74,go_sem,hc]) (fun W' hb=>⟨by rw[BJ.out,if_pos (.inr (by omega))],hb⟩)
   ·have hd':decide ((24:Int)<(dp:Int))=false:=by simpa using hd
    gi_wp2_with fail
    exact(HE2.out.set 0).qC (fun W' hc=>by simp[results,Tryz.results74,go_sem,hc]) (fun W' hb=>⟨by rw[BJ.out,if_neg (by omega)],hb⟩)
end Go.Proofs.YtncnnbmeacpboaaGreatDoor
namespace Go.aa
open Go.RowKit
variable {w W W':World} {l:List ag} {b cap j B C lo sz H:Nat} {cs:List Value} {T e t:TypeId} {fz:Nat×Nat} {F:Nat->Prop} {xs:List D} {f:ag} {kind n:Int} {name:Bs} {a binds bs:List aH} {want:Option (List Int)} {out:List Int} {terms:List bV} {met:List Bs} {r:List aV} {x:aV} {s:ax} {y:aA}
def jL(a:List aH)(name:Bs):Int:=match d9 a name with|some i=>i|none=> -1
theorem xG(a:List aH)(name:Bs):gN (fun j=>(a[j]?.map (fun b=>b.name==name)).getD false) a.length=jL a name:=by
 unfold jL d9;cases h:a.findIdx? (fun b=>b.name==name) with
 |none=>
  rw[List.findIdx?_eq_none_iff] at h;exact dM (fun i hi=>by rw[List.getElem?_eq_getElem hi];simpa using h _ (List.getElem_mem hi))
 |some i=>
  rw[List.findIdx?_eq_some_iff_getElem] at h;obtain⟨hi,h1,h2⟩:=h;exact dO hi (by rw[List.getElem?_eq_getElem hi];simpa using h1) (fun j hj=>by rw[List.getElem?_eq_getElem (by omega)];simpa using h2 j hj)
theorem qo(h:w.heap[b]?=some (.cells cs.toArray T fz)):av w b 0 cs:=fun j hj=>by
 rw[Nat.zero_add];exact cH h (by simp[hj])
theorem ak.lit(h:w.heap[b]?=some (.cells cs.toArray T fz))(hd:au w F xs cs)(hF:F b)(h1:xs.length<=cap)(h2:cap<=maxLen):ak w F xs ⟨some ⟨b,0,none⟩,b,0,cap⟩:=
 ⟨fun _=>⟨rfl,hF⟩,h1,h2,bq.mk hd (qo h)⟩
theorem ak.nil(h2:cap<=maxLen)(a:Option Addr)(b o:Nat):ak w F [] ⟨a,b,o,cap⟩:=⟨fun h=>by simp at h,Nat.zero_le _,h2,by rw[bq];trivial⟩
theorem au.nS{x:D}(h:x.oV=true)(hk:x.fine):au w F [x] x.vals:=by
 rw[au];exact⟨x.vals,[],by simp,(aM.flat _ _ h).2 ⟨rfl,hk⟩,by rw[au]⟩
theorem au.Qg{x:aA}(h:aJ w F f x):au w F [f.toD] (x.cells f):=by
 rw[au];exact⟨_,[],by simp,aJ.iff.2 ⟨x,rfl,h⟩,by rw[au]⟩
theorem aJ.bare(hk:jh kind)(hn:name.length<=maxLen)(h:jh n):aJ w F (.mk kind name n [] [] []) ⟨rV,rV,rV⟩:=
 ⟨hk,hn,h,ak.nil (Nat.zero_le _) _ _ _,ak.nil (Nat.zero_le _) _ _ _,ak.nil (Nat.zero_le _) _ _ _⟩
theorem jo(h: -1000<=n)(h':n<=2000000000000):jh n:=⟨by omega,by omega⟩
structure vg (b:aH):Prop where
 name:b.name.length<=4000000
 sort:jh b.sort
theorem aH.fine{b:aH}(h:vg b):b.toD.fine:=by
 refine⟨?_,?_,trivial⟩
 ·rw[D.fine,aS];have:=h.name;unfold maxLen;omega
 ·exact h.sort.wf
theorem aH.Fa{b:aH}(h:b.toD.fine)(hl:b.name.length<=4000000):vg b:=⟨hl,jh.oo h.2.1⟩
def gM(b:aH):ag:=.mk 14 [] 0 [] [b] [.mk 1 [] 0 [] [] []]
theorem tH(b:aH):(aX (gM b)==0)=bu b:=by
 have h:(aN (gM b)).all aD=bu b:=by
  simp[gM,aN,df,aD,lY,dV,dL,dP,iX,eu,ag.kind,ag.terms,ag.binds,ag.l,ag.n,ag.name]
 unfold aX;rw[h];cases hb:bu b
 ·rfl
 ·rw[if_neg (by simp),if_neg (by simp[gM,ag.size,aY,ag.depth,bN])];rfl
end Go.aa
namespace Go.Proofs.YtncnnbmeacpboaaGreatDoor
open Go.RowKit Go.aa
variable {w W W':World} {l:List ag} {b cap j B C lo sz H:Nat} {cs:List Value} {T e t:TypeId} {fz:Nat×Nat} {F:Nat->Prop} {xs:List D} {f:ag} {kind n:Int} {name:Bs} {a binds bs:List aH} {want:Option (List Int)} {out:List Int} {terms:List bV} {met:List Bs} {r:List aV} {x:aV} {s:ax} {y:aA}
theorem rM(f:FuncId)(lb:Array Value)(p:Nat->Bool)(n:Nat)(c0 c1:Nat->Value)(a:Option Addr)(b o cap:Nat)(w:World)(hsl:fF (·<w.heap.size) a b o n)(hc:∀j,j<n->w.cell? ⟨b,o+j*2,none⟩=some (c0 j)/\w.cell? ⟨b,o+j*2+1,none⟩=some (c1 j))(hp:∀j,j<n->∀W,Below w.heap.size w W->Calls Tryz.prog f (#[.agg #[c0 j,c1 j]]++lb) W (bK W (p j)))(hent:∀(args:Array Value) (w:World),(callFunc f args).run Tryz.prog w=.ok (.enter f args) w)(hmax:n<=2000000):
  Calls Tryz.prog 183 #[.slice a n cap,.func (.func f) #[] lb] w fun e w'=>e=.returned (.int .i64 (gN p n))/\Below w.heap.size w w':=by
 have HC:=Lh hc;have HP:=Lh hp;clear hc hp;go_enter Tryz.func183,Tryz.ntmps183;go_wp2_with fail;go_loopw [8,5] (fun i _ wr=>∃j:Nat,j<=n/\i=.int .i64 j/\Hid (∀i,i<j->p i=false)/\Below w.heap.size w wr) (fun i _ _=>n-(intOf i).toNat)
 case atStart=>exact⟨0,Nat.zero_le _,rfl,Lh (fun i hi=>by omega),Below.refl _ _⟩
 case round=>
  obtain⟨j,hj,rfl,HF,hb⟩:=hrel;have hbs:=hb.size;by_cases hlt:j<n
  ·obtain⟨rfl,hbl⟩:=hsl (by omega);obtain⟨q0,q1⟩:=HC.out j hlt;have e0:=(hb.cell (p:=⟨b,o+j*2,none⟩) hbl).trans q0;have e1:=(hb.cell (p:=⟨b,o+j*2+1,none⟩) hbl).trans q1;have iP:=Lh (HP.out j hlt wr hb);have HN:=Lh (fun(h:p j=true)=>dO hlt h HF.out);have HM:=Lh (fun(h:p j=false) (i:Nat) (hi:i<j+1)=>(by
    by_cases hij:i=j
    ·rw[hij];exact h
    ·exact HF.out i (by omega):p i=false))
   clear q0 q1;go_wp2_with fail;refine iP.out.mono ?_;rintro e w' ⟨rfl,hb'⟩;have hbb:=hb.trans (hb'.mono hbs);generalize hr:p j=r at HN HM ⊢;have HR:=Lh hr;clear hr;cases r
   ·go_wp2_with fail;exact⟨⟨j+1,by omega,by go_num,Lh (HM.out (by first|rfl|trivial)),hbb⟩,by simp[intOf];omega⟩
   ·go_wp2_with fail;go_ret;exact⟨aP (HN.out (by first|rfl|trivial)).symm,hbb⟩
  ·go_wp2_with fail;go_ret;exact⟨aP (dM (fun i hi=>HF.out i (by omega))).symm,hb⟩
theorem Ci(b:aH)(name:Bs)(p:Nat)(w:World)(hp:w.cell? ⟨p,0,none⟩=some (.string ⟨name.toArray⟩)):
  Calls Tryz.prog 184 #[.agg #[.string ⟨b.name.toArray⟩,.int .i64 b.sort],.pointer (some ⟨p,0,none⟩)] w (bK w (b.name==name)):=by
 obtain⟨nm,sort⟩:=b;simp only;have hp':=eY (x:=.cells #[.string ⟨nm.toArray⟩,.int .i64 sort] 94) hp;clear hp;go_enter Tryz.func184,Tryz.ntmps184;go_wp2_with fail;go_ret;exact⟨rfl,(Below.refl _ _).alloc (Nat.le_refl _) _⟩
theorem rA(a:List aH)(x:aB)(name:Bs)(w:World)(hx:ak w (·<w.heap.size) (a.map aH.toD) x)(hl:a.length<=2000000):
  Calls Tryz.prog 149 #[.slice x.a a.length x.cap,.string ⟨name.toArray⟩] w fun e w'=>e=.returned (.int .i64 (jL a name))/\Below w.heap.size w w':=by
 have dD:Below w.heap.size w (w.alloc (.cells #[.string ⟨name.toArray⟩] 9)):=(Below.refl _ _).alloc (Nat.le_refl _) _;have hx1:=hx.later dD (C:=(w.alloc (.cells #[.string ⟨name.toArray⟩] 9)).heap.size) (by simp);obtain⟨g1,_,_,g4,_⟩:=hx1.flat aH.bZ;have hq:(w.alloc (.cells #[.string ⟨name.toArray⟩] 9)).cell? ⟨w.heap.size,0,none⟩=some (.string ⟨name.toArray⟩):=cH (boxed (B:=w.heap.size+1) (Below.refl _ _) (by omega)) rfl;have hc:=rM 184 #[.pointer (some ⟨w.heap.size,0,none⟩)] (fun j=>(a[j]?.map (fun b=>b.name==name)).getD false) a.length (fun j=>.string ⟨(a[j]?.map (·.name.toArray)).getD #[]⟩) (fun j=>.int .i64 ((a[j]?.map (·.sort)).getD 0)) x.a x.b x.o x.cap _ g1
  (fun j hj=>by
   have h:=g4.two j hj rfl;rw[List.getElem?_eq_getElem hj];exact h)
  (fun j hj W hW=>by
   rw[List.getElem?_eq_getElem hj];exact Ci a[j] name w.heap.size W ((hW.cell (World.block_lt_of_cell? _ _ hq)).trans hq))
  (fun _ _=>enters_of Tryz.func184 (by kernel_rfl) rfl _ _) hl
 rw[xG] at hc;have HC:=Lh hc;have HB:=Lh dD;have I7:∀(fn:Fn) (first cap:Array Value) (w:World),(Instr.makeFunc fn first cap).run Tryz.prog w=.ok (.func fn first cap) w:=fun _ _ _ _=>rfl;clear hx hx1 g1 g4 hq hc dD;go_enter Tryz.func149,Tryz.ntmps149;go_wp2_with fail;refine HC.out.mono ?_;rintro e w1 ⟨rfl,hb⟩;have HB1:=Lh hb;clear hb;go_wp2_with fail;go_ret;exact⟨rfl,HB.out.trans (HB1.out.mono HB.out.size)⟩
theorem lN(b:aH)(w:World)(hb:vg b)(hg:GG w):
  Calls Tryz.prog 112 #[.agg #[.string ⟨b.name.toArray⟩,.int .i64 b.sort]] w fun e w'=>e=.returned (.bool (bu b))/\Below w.heap.size w w':=by
 generalize hW3:(((w.alloc (.cells #[.string ⟨b.name.toArray⟩,.int .i64 b.sort] 94)).alloc (.cells #[.string ⟨b.name.toArray⟩,.int .i64 b.sort] 94)).alloc (.cells #[.int .i64 1,.string ⟨#[]⟩,.int .i64 0,.slice none 0 0,.slice none 0 0,.slice none 0 0] 64))=W3;have hsz:W3.heap.size=w.heap.size+3:=by rw[<-hW3];simp
 have hb3:Below w.heap.size w W3:=by rw[<-hW3];exact(((Below.refl _ _).alloc (Nat.le_refl _) _).alloc (by simp) _).alloc (by simp;omega) _
 have g1:W3.heap[w.heap.size+1]?=some (.cells #[.string ⟨b.name.toArray⟩,.int .i64 b.sort] 94 (0,0)):=by rw[<-hW3];simp only[ae,World.size_alloc];repeat(first|rw[if_pos trivial]|rw[if_pos (by omega)]|rw[if_neg (by omega)])
 have g2:W3.heap[w.heap.size+1+1]?=some (.cells #[.int .i64 1,.string ⟨#[]⟩,.int .i64 0,.slice none 0 0,.slice none 0 0,.slice none 0 0] 64 (0,0)):=by rw[<-hW3];simp only[ae,World.size_alloc];repeat(first|rw[if_pos trivial]|rw[if_pos (by omega)]|rw[if_neg (by omega)])
 have hin:aJ W3 (·<W3.heap.size) (gM b) ⟨rV,⟨some ⟨w.heap.size+1,0,none⟩,w.heap.size+1,0,1⟩,⟨some ⟨w.heap.size+1+1,0,none⟩,w.heap.size+1+1,0,1⟩⟩:=
  ⟨(show jh 14 from jo (by decide) (by decide)),Nat.zero_le _,(show jh 0 from jo (by decide) (by decide)),ak.nil (Nat.zero_le _) _ _ _,ak.lit (cs:=b.toD.vals) g1 (au.nS (aH.bZ.flat b) (aH.fine hb)) (by show _<_;omega) (Nat.le_refl _) (by decide),
   ak.lit (cs:=(⟨rV,rV,rV⟩:aA).cells (.mk 1 [] 0 [] [] [])) g2 (au.Qg (aJ.bare (jo (by decide) (by decide)) (Nat.zero_le _) (jo (by decide) (by decide)))) (by show _<_;omega) (Nat.le_refl _) (by decide)⟩
 have hfit:iV (gM b):=⟨by simp[gM,ag.size,aY],fun g hg=>by
  simp only[gM,aN,df,List.append_nil,List.mem_cons,List.not_mem_nil,or_false] at hg;rcases hg with rfl|rfl
  ·refine⟨by simp[ag.terms],by simp[ag.binds],by simp[ag.l],by simp[ag.name],fun t ht=>by simp[ag.terms] at ht,fun c hc=>?_⟩;simp only[ag.binds,List.mem_singleton] at hc;subst hc;exact hb.name
  ·exact⟨by simp[ag.terms],by simp[ag.binds],by simp[ag.l],by simp[ag.name],fun t ht=>by simp[ag.terms] at ht,fun c hc=>by simp[ag.binds] at hc⟩⟩
 have hc:=mV (gM b) _ W3 hin hfit (hg.below hb3);have he:=tH b;rw[show gM b=.mk 14 [] 0 [] [b] [.mk 1 [] 0 [] [] []] from rfl] at he;simp only[gM,ja,aA.cells,aB.val,ag.kind,ag.name,ag.n,ag.terms,ag.binds,ag.l,List.length_nil,List.length_singleton,rV] at hc;rw[<-hW3] at hc;have HC:=Lh hc;have HE:=Lh he;have HB:=Lh (aI hb3 hW3);clear hc hin hfit g1 g2 hsz hb3 hb hg he hW3;generalize aX (.mk 14 [] 0 [] [b] [.mk 1 [] 0 [] [] []])=fc at HC HE;obtain⟨name,sort⟩:=b;simp only at HC HB ⊢;go_enter Tryz.func112,Tryz.ntmps112;go_wp2_with fail;refine HC.out.mono ?_;rintro e w1 ⟨rfl,hb1⟩;have HB1:=Lh hb1;clear hb1;go_wp2_with fail;go_ret;have h:=HB.out.1;rw[<-HB.out.2] at h;exact⟨bg HE.out,h.trans (HB1.out.mono h.size)⟩
theorem Di(b:aH)(w:World)(hb:vg b)(hg:GG w):
  Calls Tryz.prog 111 #[.agg #[.string ⟨b.name.toArray⟩,.int .i64 b.sort]] w (bK w (!(bu b))):=by
 have dD:Below w.heap.size w (w.alloc (.cells #[.string ⟨b.name.toArray⟩,.int .i64 b.sort] 94)):=(Below.refl _ _).alloc (Nat.le_refl _) _;have HT:=Lh (lN b _ hb (hg.below dD));have HB:=Lh dD;clear hb hg dD;generalize bu b=v at HT ⊢;obtain⟨name,sort⟩:=b;simp only at*;go_enter Tryz.func111,Tryz.ntmps111;go_wp2_with fail;refine HT.out.mono ?_;rintro e w1 ⟨rfl,hb1⟩;have HB1:=Lh hb1;clear hb1;go_wp2_with fail;go_ret;exact⟨rfl,HB.out.trans (HB1.out.mono HB.out.size)⟩
theorem E8(l:List aH)(x:aB)(w:World)(hx:ak w (·<w.heap.size) (l.map aH.toD) x)(hl:l.length<=2000000)(hmax:∀t∈l,t.name.length<=4000000)(hg:GG w):
  Calls Tryz.prog 113 #[.slice x.a l.length x.cap,.func (.func 111) #[] #[]] w fun e w'=>e=.returned (.bool (!(l.all bu)))/\Below w.heap.size w w':=by
 obtain⟨g1,_,_,g4,g5⟩:=hx.flat aH.bZ;rw[show(!(l.all bu))=l.any (fun b=>!(bu b)) from by rw[List.all_eq_not_any_not,Bool.not_not],<-fG];refine jX 111 #[] (fun j=>(l[j]?.map (fun b=>!(bu b))).getD false) l.length (fun j=>.string ⟨(l[j]?.map (·.name.toArray)).getD #[]⟩) (fun j=>.int .i64 ((l[j]?.map (·.sort)).getD 0)) x.a x.b x.o x.cap w g1 ?_ ?_ (fun _ _=>enters_of Tryz.func111 (by kernel_rfl) rfl _ _) hl
 ·intro j hj;have h:=g4.two j hj rfl;rw[List.getElem?_eq_getElem hj];exact h
 ·intro j hj W hW;rw[List.getElem?_eq_getElem hj];exact Di l[j] W (aH.Fa (g5 _ (List.getElem_mem hj)) (hmax _ (List.getElem_mem hj))) (hg.below hW)
def Bj(a:List aH)(i:Nat):Bool:=match a[i]? with|some b=>bu b&&(d9 a b.name==some i)|none=>true
theorem Jn(a:List aH):qy a=(List.range a.length).all (Bj a):=rfl
theorem Gf(a:List aH)(i:Nat)(hi:i<a.length):Bj a i=(bu a[i]&&!(jL a a[i].name !=(i:Int))):=by
 unfold Bj jL;rw[List.getElem?_eq_getElem hi];simp only;congr 1;cases h:d9 a a[i].name with
 |none=>
  have h2:((-1:Int) !=(i:Int))=true:=by simp
  simp only[h2];rfl
 |some k=>
  by_cases hk:k=i
  ·subst hk;simp
  ·have h2:((k:Int) !=(i:Int))=true:=by simp;omega
   have h3:(some k==some i)=false:=by simp;omega
   simp only[h2,h3];rfl
theorem EG(a:List aH)(x:aB)(w:World)(hx:ak w (·<w.heap.size) (a.map aH.toD) x)(hl:a.length<=2000000)(hmax:∀t∈a,t.name.length<=4000000)(hg:GG w):
  Calls Tryz.prog 114 #[.slice x.a a.length x.cap] w fun e w'=>e=.returned (.bool (qy a))/\Below w.heap.size w w':=by
 obtain⟨g1,_,_,g4,g5⟩:=hx.flat aH.bZ;have HC:=Lh g4;have HX:=Lh hx;have Ky:=Lh (fun(j:Nat) (hj:j<a.length)=>aH.Fa (g5 _ (List.getElem_mem hj)) (hmax _ (List.getElem_mem hj)));have HG:=Lh hg;rw[Jn];clear hx hg g4 g5 hmax;go_enter Tryz.func114,Tryz.ntmps114;go_wp2_with fail;go_loopw [7] (fun i wr=>∃j:Nat,j<=a.length/\i=.int .i64 j/\Below w.heap.size w wr/\Hid (∀i,i<j->Bj a i=true)) (fun i _=>a.length-(intOf i).toNat)
 case atStart=>exact⟨0,Nat.zero_le _,rfl,Below.refl _ _,Lh (fun i h=>by omega)⟩
 case round=>
  obtain⟨j,hj,rfl,hb,HM⟩:=hrel;by_cases hlt:j<a.length
  ·obtain⟨hxa,hbl⟩:=g1 (by omega);obtain⟨q0,q1⟩:=HC.out.two j hlt rfl;have e0:=(hb.cell (p:=⟨x.b,x.o+j*2,none⟩) hbl).trans q0;have e1:=(hb.cell (p:=⟨x.b,x.o+j*2+1,none⟩) hbl).trans q1;have dD:Below w.heap.size w (wr.alloc (.cells #[.string ⟨a[j].name.toArray⟩,.int .i64 a[j].sort] 94)):=hb.alloc hb.size _;have Kw:=Lh (lN a[j] (wr.alloc (.cells #[.string ⟨a[j].name.toArray⟩,.int .i64 a[j].sort] 94)) (Ky.out j hlt) (HG.out.below dD));have Ed:=Lh (fun(W:World) (hW:Below w.heap.size w W)=>rA a x a[j].name W (HX.out.later hW hW.size) hl);have HE:=Lh (Gf a j hlt);have pE:=Lh dD;rw[hxa] at Ed ⊢;clear q0 q1 dD;generalize jL a a[j].name=fi at Ed HE;generalize hbe:a[j]=be at Kw Ed HE pE e0 e1;obtain⟨nm,so⟩:=be;simp only at Kw Ed HE pE e0 e1;generalize bu ⟨nm,so⟩=bo at Kw HE;clear hbe;go_wp2_with fail;refine Kw.out.mono ?_;rintro e w1 ⟨rfl,hb1⟩;have hb1':=pE.out.trans (hb1.mono pE.out.size);have q0:w1.cell? ⟨wr.heap.size,0,none⟩=some (.string ⟨nm.toArray⟩):=cH (boxed (B:=wr.heap.size+1) (by simpa using hb1) (by omega)) rfl;have HB1:=Lh hb1';clear hb1 hb1';cases bo
   ·go_wp2_with fail;go_ret;exact⟨bg (List.all_eq_false.2 ⟨j,List.mem_range.2 hlt,by rw[HE.out];simp⟩).symm,HB1.out⟩
   ·have Ry:=Lh (Ed.out w1 HB1.out);have hd:(fi !=(j:Int))=true∨(fi !=(j:Int))=false:=by cases (fi !=(j:Int))<;>simp
    rcases hd with hd|hd
    ·go_wp2_with fail;refine Ry.out.mono ?_;rintro e w2 ⟨rfl,hb2⟩;have HB2:=Lh (HB1.out.trans (hb2.mono HB1.out.size));clear hb2 q0;go_wp2_with fail;go_ret;exact⟨bg (List.all_eq_false.2 ⟨j,List.mem_range.2 hlt,by rw[HE.out];simp at hd;simp[hd]⟩).symm,HB2.out⟩
    ·obtain rfl:fi=j:=int_eq hd;clear hd;go_wp2_with fail;refine Ry.out.mono ?_;rintro e w2 ⟨rfl,hb2⟩;have HB2:=Lh (HB1.out.trans (hb2.mono HB1.out.size));clear hb2 q0;go_wp2_with fail;refine⟨⟨j+1,by omega,by go_num,HB2.out,Lh (fun i hi=>?_)⟩,by simp[intOf];omega⟩;by_cases hij:i=j
     ·rw[hij,HE.out];simp
     ·exact HM.out i (by omega)
  ·go_wp2_with fail;go_ret;exact⟨bg (List.all_eq_true.2 (fun i hi=>HM.out i (by have:=List.mem_range.1 hi;omega))).symm,hb⟩
theorem GM(a:List aH){kind:Int}(name:Bs)(n:Int)(h:kind=1):aU a ⟨kind,name,n⟩=(8,0):=by unfold aU;rw[if_pos h]
theorem Dr(n:Int)(h:¬kind=1)(hf:d9 a name=none):aU a ⟨kind,name,n⟩=(0,81):=by unfold aU;simp only[if_neg h,hf]
theorem Dt(n:Int)(h:¬kind=1){i:Nat}(hf:d9 a name=some i)(hi:i<a.length):aU a ⟨kind,name,n⟩=if kind=2 then(a[i].sort,0) else if(ib kind).1≠a[i].sort then(0,80) else((ib kind).2,0):=by
 unfold aU;simp only[if_neg h,hf,List.getElem?_eq_getElem hi]
theorem yP(a:List aH)(x:aB)(t:bV)(w:World)(hx:ak w (·<w.heap.size) (a.map aH.toD) x)(hl:a.length<=2000000)(hk:1<=t.kind/\t.kind<=7)(hg:GG w):
  Calls Tryz.prog 151 #[.slice x.a a.length x.cap,.agg #[.int .i64 t.kind,.string ⟨t.name.toArray⟩,.int .i64 t.n]] w fun e w'=>e=.returned (.tuple #[.int .i64 (aU a t).1,.int .i64 (aU a t).2])/\Below w.heap.size w w':=by
 obtain⟨kind,name,n⟩:=t;simp only at hk ⊢;have dD:Below w.heap.size w (w.alloc (.cells #[.int .i64 kind,.string ⟨name.toArray⟩,.int .i64 n] 92)):=(Below.refl _ _).alloc (Nat.le_refl _) _;have HB:=Lh dD;by_cases h1:kind=1
 ·rw[GM a name n h1];clear hx hg dD;subst h1;go_enter Tryz.func151,Tryz.ntmps151;go_wp2_with fail;go_ret2;exact⟨rfl,HB.out⟩
 ·have h1':(kind==1)=false:=by simpa using h1
  have HF:=Lh (rA a x name _ (hx.later dD (C:=(w.alloc (.cells #[.int .i64 kind,.string ⟨name.toArray⟩,.int .i64 n] 92)).heap.size) (by simp)) hl);cases hf:d9 a name with
  |none=>
   rw[Dr n h1 hf];have hfi:jL a name= -1:=by unfold jL;rw[hf]
   rw[hfi] at HF;clear hx hg dD hf hfi;go_enter Tryz.func151,Tryz.ntmps151;go_wp2_with fail;refine HF.out.mono ?_;rintro e w1 ⟨rfl,hb1⟩;have HB1:=Lh hb1;clear hb1;go_wp2_with fail;go_ret2;exact⟨rfl,HB.out.trans (HB1.out.mono HB.out.size)⟩
  |some i=>
   have hi:i<a.length:=(List.findIdx?_eq_some_iff_getElem.1 hf).1;rw[Dt n h1 hf hi];have hfi:jL a name=i:=by unfold jL;rw[hf]
   rw[hfi] at HF;obtain⟨g1,_,_,g4,g5⟩:=hx.flat aH.bZ;obtain⟨q0,q1⟩:=g4.two i hi rfl;obtain⟨hxa,hbl⟩:=g1 (by omega);have HQ:=Lh (fun(W:World) (hb:Below w.heap.size w W)=>(hb.cell (p:=⟨x.b,x.o+i*2+1,none⟩) hbl).trans q1);have HG:=Lh (fun(W:World) (hb:Below w.heap.size w W)=>(hg.below hb).takes kind.toNat (by omega));have hkn:((kind.toNat:Nat):Int)=kind:=by omega
   rw[hkn] at HG;rw[hxa] at HF ⊢;clear hx hg dD hf hfi g1 g4 g5 q0 q1 hxa hbl;generalize a[i].sort=so at HQ ⊢;generalize a.length=al at hl hi HF ⊢;by_cases h2:kind=2
   ·subst h2;rw[if_pos rfl];clear hkn HG h1' hk h1;go_enter Tryz.func151,Tryz.ntmps151;go_wp2_with fail;refine HF.out.mono ?_;rintro e w1 ⟨rfl,hb1⟩;have HB1:=Lh (HB.out.trans (hb1.mono HB.out.size));have q0:w1.cell? ⟨w.heap.size,0,none⟩=some (.int .i64 2):=cH (boxed (B:=w.heap.size+1) (by simpa using hb1) (by omega)) rfl;have q1:=HQ.out w1 HB1.out;clear hb1;go_wp2_with fail;go_ret2;exact⟨rfl,HB1.out⟩
   ·rw[if_neg h2];have h2':(kind==2)=false:=by simpa using h2
    obtain⟨k,hkk⟩:∃k,k=kind.toNat:=⟨_,rfl⟩;rw[<-hkk] at HG hkn;clear hkk;subst hkn;generalize (ib (k:Int)).1=t1 at HG ⊢;generalize (ib (k:Int)).2=t2 at HG ⊢;have hd:(t1≠so/\(t1 !=so)=true)∨(t1=so/\(t1 !=so)=false):=by by_cases h:t1=so<;>simp[h]
    rcases hd with⟨d1,d2⟩|⟨d1,d2⟩
    ·rw[if_pos d1];have HD:=Lh d1;clear d1;go_enter Tryz.func151,Tryz.ntmps151;go_wp2_with fail;refine HF.out.mono ?_;rintro e w1 ⟨rfl,hb1⟩;have HB1:=Lh (HB.out.trans (hb1.mono HB.out.size));have q0:w1.cell? ⟨w.heap.size,0,none⟩=some (.int .i64 k):=cH (boxed (B:=w.heap.size+1) (by simpa using hb1) (by omega)) rfl;have q1:=HQ.out w1 HB1.out;obtain⟨q2,q3⟩:=HG.out w1 HB1.out;clear hb1;have hin:(i:Int)<(al:Int):=by omega
     have hkb:(k:Int)<8:=by omega
     go_wp2_with fail;go_quiet (fail);go_wp2_with fail;go_ret2;exact⟨rfl,HB1.out.trans ⟨rfl,rfl,rfl,Nat.le_refl _,fun _ _=>rfl⟩⟩
    ·subst d1;rw[if_neg (by simp)];go_enter Tryz.func151,Tryz.ntmps151;go_wp2_with fail;refine HF.out.mono ?_;rintro e w1 ⟨rfl,hb1⟩;have HB1:=Lh (HB.out.trans (hb1.mono HB.out.size));have q0:w1.cell? ⟨w.heap.size,0,none⟩=some (.int .i64 k):=cH (boxed (B:=w.heap.size+1) (by simpa using hb1) (by omega)) rfl;have q1:=HQ.out w1 HB1.out;obtain⟨q2,q3⟩:=HG.out w1 HB1.out;clear hb1;have hin:(i:Int)<(al:Int):=by omega
     have hkb:(k:Int)<8:=by omega
     go_wp2_with fail;go_quiet (fail);go_wp2_with fail;go_ret2;exact⟨rfl,HB1.out.trans ⟨rfl,rfl,rfl,Nat.le_refl _,fun _ _=>rfl⟩⟩
end Go.Proofs.YtncnnbmeacpboaaGreatDoor
namespace Go.aa
open Go.RowKit
variable {w W W':World} {l:List ag} {b cap j B C lo sz H:Nat} {cs:List Value} {T e t:TypeId} {fz:Nat×Nat} {F:Nat->Prop} {xs:List D} {f:ag} {kind n:Int} {name:Bs} {a binds bs:List aH} {want:Option (List Int)} {out:List Int} {terms:List bV} {met:List Bs} {r:List aV} {x:aV} {s:ax} {y:aA}
def iL(want:Option (List Int))(i:Nat)(s:Int):Bool:=match want with|some ws=>ws[i]?.getD 0 !=s|none=>false
def dF(a:List aH)(want:Option (List Int)):List bV->Nat->List Int->List Int×Int
 |[],_,out=>(out,0)
 |t::r,i,out=>if(aU a t).2≠0 then([],(aU a t).2) else if iL want i (aU a t).1=true then([],80) else dF a want r (i+1) (out++[(aU a t).1])
def iJ(a:List aH)(want:Option (List Int))(l:List bV):List Int×Int:=dF a want l 0 []
theorem jM{l:List bV}(hj:j<l.length){e1:Int}(he:(aU a l[j]).2=e1)(h:e1≠0):dF a want (l.drop j) j out=([],e1):=by
 rw[List.drop_eq_getElem_cons hj,dF,if_pos (by rw[he];exact h),he]
theorem oC{ws:List Int}{l:List bV}(hj:j<l.length)(he:(aU a l[j]).2=0){x s:Int}(hs:(aU a l[j]).1=s)(hx:ws[j]?.getD 0=x)(h:x≠s):dF a (some ws) (l.drop j) j out=([],80):=by
 rw[List.drop_eq_getElem_cons hj,dF,if_neg (by rw[he];simp),if_pos (by unfold iL;simp only[hx,hs];simpa using h)]
theorem oz{l:List bV}(hj:j<l.length)(he:(aU a l[j]).2=0){s:Int}(hs:(aU a l[j]).1=s)(h:iL want j s=false):dF a want (l.drop j) j out=dF a want (l.drop (j+1)) (j+1) (out++[s]):=by
 conv=>lhs;rw[List.drop_eq_getElem_cons hj,dF,if_neg (by rw[he];simp),hs]
 rw[if_neg (by rw[h];simp)]
theorem uX(h:∀b∈a,jh b.sort)(t:bV):jh (aU a t).1/\jh (aU a t).2:=by
 have k:∀n:Int,0<=n->n<=100->jh n:=fun n h1 h2=>jo (by omega) (by omega);unfold aU;split
 ·exact⟨k _ (by decide) (by decide),k _ (by decide) (by decide)⟩
 ·split
  ·exact⟨k _ (by decide) (by decide),k _ (by decide) (by decide)⟩
  ·split
   ·exact⟨k _ (by decide) (by decide),k _ (by decide) (by decide)⟩
   ·rename_i b hb;split
    ·exact⟨h _ (List.mem_of_getElem? hb),k 0 (by decide) (by decide)⟩
    ·split
     ·exact⟨k _ (by decide) (by decide),k _ (by decide) (by decide)⟩
     ·refine⟨?_,k 0 (by decide) (by decide)⟩;unfold ib
      repeat' split
      all_goals exact k _ (by decide) (by decide)
end Go.aa
namespace Go.Proofs.YtncnnbmeacpboaaGreatDoor
open Go.RowKit Go.aa
variable {w W W':World} {l:List ag} {b cap j B C lo sz H:Nat} {cs:List Value} {T e t:TypeId} {fz:Nat×Nat} {F:Nat->Prop} {xs:List D} {f:ag} {kind n:Int} {name:Bs} {a binds bs:List aH} {want:Option (List Int)} {out:List Int} {terms:List bV} {met:List Bs} {r:List aV} {x:aV} {s:ax} {y:aA}
theorem Du(a:List aH)(x:aB)(l:List bV)(y:aB)(w:World)(hx:ak w (·<w.heap.size) (a.map aH.toD) x)(hy:ak w (·<w.heap.size) (l.map bV.toD) y)(hl:a.length<=2000000)(UG:l.length<=2000000)(hk:∀t∈l,1<=t.kind/\t.kind<=7)(hg:GG w):
  Calls Tryz.prog 150 #[.slice y.a l.length y.cap,.func (.func 151) #[.slice x.a a.length x.cap] #[],.slice none 0 0] w fun e w'=>∃v,e=.returned (.tuple #[v,.int .i64 (iJ a none l).2])/\fu w' w.heap.size (fun _=>False) 3 1 v (aG (iJ a none l).1)/\Below w.heap.size w w':=by
 obtain⟨g1,_,_,g4,g5⟩:=hy.flat bV.bZ;have HC:=Lh g4;have HY:=Lh hy;have HX:=Lh hx;have hbi:∀b∈a,jh b.sort:=fun b hb=>by
  obtain⟨_,_,_,_,k5⟩:=hx.flat aH.bZ;have:=(k5 b hb).2.1;exact jh.oo this
 have HS:=Lh (fun t=>uX hbi t);have HK:=Lh (fun(j:Nat) (hj:j<l.length)=>hk _ (List.getElem_mem hj));have HG:=Lh hg;obtain⟨i0,hi,hz0,hz1,hz2⟩:=info_parts Bf;clear hx hy hg g4 g5 hbi hk;go_enter Tryz.func150,Tryz.ntmps150;go_wp2_with fail;go_loopw [6,7,14] (fun o ee i wr=>∃(j:Nat) (out:List Int),j<=l.length/\i=.int .i64 j/\ee=.int .i64 0/\Below w.heap.size w wr/\Hid (fu wr w.heap.size (fun _=>False) 3 1 o (aG out))/\Hid (out.length=j/\ve out/\iJ a none l=dF a none (l.drop j) j out)) (fun _ _ i _=>l.length-(intOf i).toNat)
 case atStart=>exact⟨0,[],Nat.zero_le _,rfl,rfl,Below.refl _ _,Lh (fu.nil _ _ _ _ _ (fun _ h=>h.elim)),Lh ⟨rfl,(by intro z hz;cases hz),rfl⟩⟩
 case round=>
  obtain⟨j,out,hj,rfl,rfl,hb,HO,HE⟩:=hrel;obtain⟨oa,fM,ho⟩:=HO.out.form;subst ho;obtain⟨n,hn⟩:∃n,n=(aG out).length:=⟨_,rfl⟩;rw[<-hn] at HO ⊢;have HN:=Lh hn;clear hn;by_cases hlt:j<l.length
  ·obtain⟨hxa,hbl⟩:=g1 (by omega);obtain⟨q0,q1,q2⟩:=HC.out.three j hlt rfl;have e0:=(hb.cell (p:=⟨y.b,y.o+j*3,none⟩) hbl).trans q0;have e1:=(hb.cell (p:=⟨y.b,y.o+j*3+1,none⟩) hbl).trans q1;have e2:=(hb.cell (p:=⟨y.b,y.o+j*3+2,none⟩) hbl).trans q2;have dD:Below w.heap.size w (wr.alloc (.cells #[.int .i64 l[j].kind,.string ⟨l[j].name.toArray⟩,.int .i64 l[j].n] 92)):=hb.alloc hb.size _;have Ei:=Lh (yP a x l[j] _ (HX.out.later dD dD.size) hl (HK.out j hlt) (HG.out.below dD));have Ez:=Lh (HO.out.below ((Below.refl _ _).alloc (Nat.le_refl _) (.cells #[.int .i64 l[j].kind,.string ⟨l[j].name.toArray⟩,.int .i64 l[j].n] 92)));obtain⟨s1,hs1⟩:∃s1,(aU a l[j]).1=s1:=⟨_,rfl⟩;obtain⟨c1,hc1⟩:∃c1,(aU a l[j]).2=c1:=⟨_,rfl⟩;have HI:=Lh (HS.out l[j]);rw[hs1,hc1] at Ei HI;have HF:=Lh (aI hs1 hc1);have pE:=Lh dD;rw[hxa];clear q0 q1 q2 dD hs1 hc1;generalize hte:l[j]=te at Ei pE Ez e0 e1 e2;obtain⟨tk,tn,tv⟩:=te;simp only at Ei pE Ez e0 e1 e2;clear hte;have hc:(c1=0/\(c1==0)=true)∨(¬c1=0/\(c1==0)=false):=by by_cases h:c1=0<;>simp[h]
   go_wp2_with fail;refine Ei.out.mono ?_;rintro e w1 ⟨rfl,hb1⟩;have HB1:=Lh (pE.out.trans (hb1.mono pE.out.size));have M5:=Lh (Ez.out.below hb1);clear hb1;rcases hc with⟨hc1,hc2⟩|⟨hc1,hc2⟩
   ·subst hc1;clear hc2;go_wp2_with (at_builtin;go_must (refine il rfl _ _ 30 rfl 3 i0 _ 1 8 Tryz.underlying30 hi hz0 hz1 hz2 rfl (by decide) (.slice oa n fM) (aG out) (.int .i64 s1) [.int .i64 s1] 3 rfl rfl M5.out (au.nS (x:=.int .i64 s1) rfl HI.out.1.wf) (by have:=HB1.out.size;omega) rfl (by rw[fJ];simp) (by have:=HE.out.1;rw[fI];unfold maxLen;omega) (by have:=HE.out.1;rw[fI];omega) ?_);intro ao cap w5 hon hb5;have jS:=Lh (aI hon (HB1.out.trans hb5));clear hon hb5;rw[<-HN.out]);refine⟨⟨j+1,out++[s1],by omega,by go_num,rfl,jS.out.2,Lh ?_,Lh ⟨by have:=HE.out.1;simp;omega,fun z hz=>?_,by rw[HE.out.2.2,oz hlt HF.out.2 HF.out.1 rfl]⟩⟩,by simp[intOf];omega⟩
    ·rw[nN,HN.out];exact jS.out.1
    ·rcases List.mem_append.1 hz with hz|hz
     ·exact HE.out.2.1 z hz
     ·simp at hz;subst hz;exact HI.out.1
   ·have MO:=Lh hc1;clear hc1;go_wp2_with fail;go_ret2;refine⟨.slice none 0 0,by rw[HE.out.2.2,jM hlt HF.out.2 MO.out];rfl,?_,HB1.out⟩;rw[HE.out.2.2,jM hlt HF.out.2 MO.out];exact fu.nil _ _ _ _ _ (fun _ h=>h.elim)
  ·go_wp2_with fail;go_ret2;have he:iJ a none l=(out,0):=by rw[HE.out.2.2,List.drop_eq_nil_of_le (by omega),dF]
   rw[he];exact⟨_,rfl,HO.out,hb⟩
theorem Aj(a:List aH)(x:aB)(l:List bV)(y:aB)(ws:List Int)(wb wo wc:Nat)(w:World)(hx:ak w (·<w.heap.size) (a.map aH.toD) x)(hy:ak w (·<w.heap.size) (l.map bV.toD) y)(hl:a.length<=2000000)(UG:l.length<=2000000)(hk:∀t∈l,1<=t.kind/\t.kind<=7)(hwl:ws.length=l.length)(hwb:wb<w.heap.size)(hwc:∀i (h:i<ws.length),w.cell? ⟨wb,wo+i,none⟩=some (.int .i64 ws[i]))(hg:GG w):
  Calls Tryz.prog 150 #[.slice y.a l.length y.cap,.func (.func 151) #[.slice x.a a.length x.cap] #[],.slice (some ⟨wb,wo,none⟩) ws.length wc] w fun e w'=>∃v,e=.returned (.tuple #[v,.int .i64 (iJ a (some ws) l).2])/\fu w' w.heap.size (fun _=>False) 3 1 v (aG (iJ a (some ws) l).1)/\Below w.heap.size w w':=by
 obtain⟨g1,_,_,g4,g5⟩:=hy.flat bV.bZ;have HC:=Lh g4;have HY:=Lh hy;have HX:=Lh hx;have hbi:∀b∈a,jh b.sort:=fun b hb=>by
  obtain⟨_,_,_,_,k5⟩:=hx.flat aH.bZ;have:=(k5 b hb).2.1;exact jh.oo this
 have HS:=Lh (fun t=>uX hbi t);have HK:=Lh (fun(j:Nat) (hj:j<l.length)=>hk _ (List.getElem_mem hj));have HG:=Lh hg;have HW:=Lh (aI hwb hwc);have OO:=Lh hwl;clear hwc hwl;obtain⟨i0,hi,hz0,hz1,hz2⟩:=info_parts Bf;clear hx hy hg g4 g5 hbi hk;go_enter Tryz.func150,Tryz.ntmps150;go_wp2_with fail;go_loopw [6,7,14] (fun o ee i wr=>∃(j:Nat) (out:List Int),j<=l.length/\i=.int .i64 j/\ee=.int .i64 0/\Below w.heap.size w wr/\Hid (fu wr w.heap.size (fun _=>False) 3 1 o (aG out))/\Hid (out.length=j/\ve out/\iJ a (some ws) l=dF a (some ws) (l.drop j) j out)) (fun _ _ i _=>l.length-(intOf i).toNat)
 case atStart=>exact⟨0,[],Nat.zero_le _,rfl,rfl,Below.refl _ _,Lh (fu.nil _ _ _ _ _ (fun _ h=>h.elim)),Lh ⟨rfl,(by intro z hz;cases hz),rfl⟩⟩
 case round=>
  obtain⟨j,out,hj,rfl,rfl,hb,HO,HE⟩:=hrel;obtain⟨oa,fM,ho⟩:=HO.out.form;subst ho;obtain⟨n,hn⟩:∃n,n=(aG out).length:=⟨_,rfl⟩;rw[<-hn] at HO ⊢;have HN:=Lh hn;clear hn;by_cases hlt:j<l.length
  ·obtain⟨hxa,hbl⟩:=g1 (by omega);obtain⟨q0,q1,q2⟩:=HC.out.three j hlt rfl;have e0:=(hb.cell (p:=⟨y.b,y.o+j*3,none⟩) hbl).trans q0;have e1:=(hb.cell (p:=⟨y.b,y.o+j*3+1,none⟩) hbl).trans q1;have e2:=(hb.cell (p:=⟨y.b,y.o+j*3+2,none⟩) hbl).trans q2;have dD:Below w.heap.size w (wr.alloc (.cells #[.int .i64 l[j].kind,.string ⟨l[j].name.toArray⟩,.int .i64 l[j].n] 92)):=hb.alloc hb.size _;have Ei:=Lh (yP a x l[j] _ (HX.out.later dD dD.size) hl (HK.out j hlt) (HG.out.below dD));have Ez:=Lh (HO.out.below ((Below.refl _ _).alloc (Nat.le_refl _) (.cells #[.int .i64 l[j].kind,.string ⟨l[j].name.toArray⟩,.int .i64 l[j].n] 92)));obtain⟨s1,hs1⟩:∃s1,(aU a l[j]).1=s1:=⟨_,rfl⟩;obtain⟨c1,hc1⟩:∃c1,(aU a l[j]).2=c1:=⟨_,rfl⟩;have HI:=Lh (HS.out l[j]);rw[hs1,hc1] at Ei HI;have HF:=Lh (aI hs1 hc1);have pE:=Lh dD;rw[hxa];clear q0 q1 q2 dD hs1 hc1;generalize hte:l[j]=te at Ei pE Ez e0 e1 e2;obtain⟨tk,tn,tv⟩:=te;simp only at Ei pE Ez e0 e1 e2;clear hte;have hc:(c1=0/\(c1==0)=true)∨(¬c1=0/\(c1==0)=false):=by by_cases h:c1=0<;>simp[h]
   go_wp2_with fail;refine Ei.out.mono ?_;rintro e w1 ⟨rfl,hb1⟩;have HB1:=Lh (pE.out.trans (hb1.mono pE.out.size));have M5:=Lh (Ez.out.below hb1);clear hb1;rcases hc with⟨hc1,hc2⟩|⟨hc1,hc2⟩
   ·subst hc1;clear hc2;obtain⟨xw,QY⟩:∃xw,ws[j]?.getD 0=xw:=⟨_,rfl⟩;have hwc:=(HB1.out.cell (p:=⟨wb,wo+j,none⟩) HW.out.1).trans (HW.out.2 j (by have:=OO.out;omega));rw[show ws[j]'(by have:=OO.out;omega)=xw from by rw[<-QY,List.getElem?_eq_getElem (by have:=OO.out;omega)];rfl] at hwc;have Be:(j:Int)<(ws.length:Int):=by have:=OO.out;omega
    have Nh:=Lh QY;clear QY;have hd:(xw≠s1/\(xw !=s1)=true)∨(xw=s1/\(xw !=s1)=false):=by by_cases h:xw=s1<;>simp[h]
    rcases hd with⟨d1,d2⟩|⟨d1,d2⟩
    ·have HD:=Lh d1;clear d1;go_wp2_with fail;go_ret2;refine⟨.slice none 0 0,by rw[HE.out.2.2,oC hlt HF.out.2 HF.out.1 Nh.out HD.out];rfl,?_,HB1.out⟩;rw[HE.out.2.2,oC hlt HF.out.2 HF.out.1 Nh.out HD.out];exact fu.nil _ _ _ _ _ (fun _ h=>h.elim)
    ·obtain rfl:s1=xw:=d1.symm;clear d2;go_wp2_with (at_builtin;go_must (refine il rfl _ _ 30 rfl 3 i0 _ 1 8 Tryz.underlying30 hi hz0 hz1 hz2 rfl (by decide) (.slice oa n fM) (aG out) (.int .i64 s1) [.int .i64 s1] 3 rfl rfl M5.out (au.nS (x:=.int .i64 s1) rfl HI.out.1.wf) (by have:=HB1.out.size;omega) rfl (by rw[fJ];simp) (by have:=HE.out.1;rw[fI];unfold maxLen;omega) (by have:=HE.out.1;rw[fI];omega) ?_);intro ao cap w5 hon hb5;have jS:=Lh (aI hon (HB1.out.trans hb5));clear hon hb5;rw[<-HN.out]);refine⟨⟨j+1,out++[s1],by omega,by go_num,rfl,jS.out.2,Lh ?_,Lh ⟨by have:=HE.out.1;simp;omega,fun z hz=>?_,by rw[HE.out.2.2,oz hlt HF.out.2 HF.out.1 (by unfold iL;simp only[Nh.out];simp)]⟩⟩,by simp[intOf];omega⟩
     ·rw[nN,HN.out];exact jS.out.1
     ·rcases List.mem_append.1 hz with hz|hz
      ·exact HE.out.2.1 z hz
      ·simp at hz;subst hz;exact HI.out.1
   ·have MO:=Lh hc1;clear hc1;go_wp2_with fail;go_ret2;refine⟨.slice none 0 0,by rw[HE.out.2.2,jM hlt HF.out.2 MO.out];rfl,?_,HB1.out⟩;rw[HE.out.2.2,jM hlt HF.out.2 MO.out];exact fu.nil _ _ _ _ _ (fun _ h=>h.elim)
  ·go_wp2_with fail;go_ret2;have he:iJ a (some ws) l=(out,0):=by rw[HE.out.2.2,List.drop_eq_nil_of_le (by omega),dF]
   rw[he];exact⟨_,rfl,HO.out,hb⟩
end Go.Proofs.YtncnnbmeacpboaaGreatDoor
namespace Go.aa
open Go.RowKit
variable {w W W':World} {l:List ag} {b cap j B C lo sz H:Nat} {cs:List Value} {T e t:TypeId} {fz:Nat×Nat} {F:Nat->Prop} {xs:List D} {f:ag} {kind n:Int} {name:Bs} {a binds bs:List aH} {want:Option (List Int)} {out:List Int} {terms:List bV} {met:List Bs} {r:List aV} {x:aV} {s:ax} {y:aA}
theorem Dv(a:List aH)(t u:bV):iJ a none [t,u]=if(aU a t).2≠0 then([],(aU a t).2) else if(aU a u).2≠0 then([],(aU a u).2) else([(aU a t).1,(aU a u).1],0):=by
 unfold iJ;rw[dF];split
 ·rfl
 ·rw[if_neg (by simp[iL]),dF];split
  ·rfl
  ·rw[if_neg (by simp[iL]),dF];rfl
theorem Ai(a:List aH)(kind:Int)(t u:bV):(iJ a (some [(jA kind).1,(jA kind).2]) [t,u]).2=jB a kind t u:=by
 unfold iJ jB;rw[dF];by_cases h1:(aU a t).2≠0
 ·rw[if_pos h1,if_pos h1]
 ·rw[if_neg h1,if_neg h1];by_cases h2:(aU a t).1≠(jA kind).1
  ·rw[if_pos (by unfold iL;simp;exact fun h=>h2 h.symm),if_pos h2]
  ·rw[if_neg (by unfold iL;simp at h2 ⊢;exact h2.symm),if_neg h2,dF];by_cases h3:(aU a u).2≠0
   ·rw[if_pos h3,if_pos h3]
   ·rw[if_neg h3,if_neg h3];by_cases h4:(aU a u).1≠(jA kind).2
    ·rw[if_pos (by unfold iL;simp;exact fun h=>h4 h.symm),if_pos h4]
    ·rw[if_neg (by unfold iL;simp at h4 ⊢;exact h4.symm),if_neg h4,dF]
theorem nT(h:aD (.mk kind name n terms binds l)=true)(hk:dL kind=true):∃t u,terms=[t,u]/\(∀x∈terms,1<=x.kind/\x.kind<=7):=by
 rw[kC,Bool.and_eq_true] at h;have h2:=h.2;split at h2
 ·cases h2
 ·rw[Bool.and_eq_true,decide_eq_true_eq] at h2
  match terms,h2.1 with
  |[t,u],_=>
   refine⟨t,u,rfl,fun x hx=>?_⟩;have:=List.all_eq_true.1 h2.2 x hx;rw[Bool.and_eq_true] at this;have h3:=this.1;unfold bf at h3;split at h3
   ·rename_i he;omega
   ·simp only[Bool.and_eq_true,decide_eq_true_eq] at h3;omega
theorem vO(h:aD (.mk kind name n terms binds l)=true)(hk:dL kind=false):terms=[]/\binds.length<=6:=by
 rw[kC,Bool.and_eq_true,ng] at h;have h1:=h.1;simp only[hk,Bool.or_false,Bool.and_eq_true,List.isEmpty_iff] at h1;refine⟨h1.1.1.1.2,?_⟩;have h2:=h.2;split at h2
 ·cases h2
 ·rw[if_neg (by rw[hk];simp)] at h2;cases hq:dP kind
  ·rw[hq] at h1;have:=h1.1.1.2;simp at this;subst this;simp
  ·rw[if_pos hq] at h2;simp only[Bool.and_eq_true,decide_eq_true_eq] at h2;exact h2.1.1.2
end Go.aa
namespace Go.Proofs.YtncnnbmeacpboaaGreatDoor
open Go.RowKit Go.aa
variable {w W W':World} {l:List ag} {b cap j B C lo sz H:Nat} {cs:List Value} {T e t:TypeId} {fz:Nat×Nat} {F:Nat->Prop} {xs:List D} {f:ag} {kind n:Int} {name:Bs} {a binds bs:List aH} {want:Option (List Int)} {out:List Int} {terms:List bV} {met:List Bs} {r:List aV} {x:aV} {s:ax} {y:aA}
theorem ET(a:Option Addr)(n cap:Nat)(hn:n<=cap)(hc:cap<=maxLen)(w:World):Calls Tryz.prog 153 #[.slice a n cap] w fun e w'=>e=.returned (.slice a n n)/\w=w':=by
 go_enter Tryz.func153,Tryz.ntmps153;go_wp2_with fail;go_ret;exact⟨rfl,rfl⟩
theorem DW(a:List aH)(x:aB)(kind:Int)(name:Bs)(n:Int)(terms:List bV)(binds:List aH)(fl:List ag)(y:aA)(w:World)(hx:ak w (·<w.heap.size) (a.map aH.toD) x)(hy:ak w (·<w.heap.size) (terms.map bV.toD) y.t)(hl:a.length<=2000000)(hf:aD (.mk kind name n terms binds fl)=true)(hk:3<=kind/\kind<=8)(hg:GG w):
  Calls Tryz.prog 115 #[.slice x.a a.length x.cap,ja (.mk kind name n terms binds fl,y)] w fun e w'=>e=.returned (.int .i64 (eP a (.mk kind name n terms binds fl)))/\Below w.heap.size w w':=by
 have hak:dL kind=true:=by unfold dL;simp;omega
 obtain⟨t,u,ht,htk⟩:=nT hf hak;have dD:Below w.heap.size w (w.alloc (.cells (y.cells (.mk kind name n terms binds fl)).toArray 64)):=(Below.refl _ _).alloc (Nat.le_refl _) _;obtain⟨k,hkk⟩:∃k:Nat,(k:Int)=kind:=⟨kind.toNat,by omega⟩;have hwf:eP a (.mk kind name n terms binds fl)=jB a kind t u:=by rw[ht,uZ,if_neg (by omega)]
 subst ht;have hss:=fun(W:World) (hW:Below w.heap.size w W)=>(by
  have IW:=(hg.below hW).asks k (by omega);rw[hkk] at IW;have:=Aj a x [t,u] y.t [(jA kind).1,(jA kind).2] 0 (k*2) 2 W (hx.later hW hW.size) (hy.later hW hW.size) hl (by simp) htk rfl (World.block_lt_of_cell? _ _ IW.1) (fun i hi=>by
   match i,hi with
   |0,_=>exact IW.1
   |1,_=>exact IW.2) (hg.below hW)
  rw[Ai] at this;exact this:Calls Tryz.prog 150 #[.slice y.t.a 2 y.t.cap,.func (.func 151) #[.slice x.a a.length x.cap] #[],.slice (some ⟨0,k*2,none⟩) 2 2] W fun e w'=>∃v,e=.returned (.tuple #[v,.int .i64 (jB a kind t u)])/\fu w' W.heap.size (fun _=>False) 3 1 v (aG (iJ a (some [(jA kind).1,(jA kind).2]) [t,u]).1)/\Below W.heap.size W w')
 rw[hwf];have Ej:=Lh hss;have HB:=Lh dD;have I7:∀(fn:Fn) (first cap:Array Value) (w:World),(Instr.makeFunc fn first cap).run Tryz.prog w=.ok (.func fn first cap) w:=fun _ _ _ _=>rfl;clear hss hwf hx hy hg dD hak hf htk;generalize jB a kind t u=res at Ej ⊢;have h9:(kind==9)=false:=by simp;omega
 have Vo:(kind:Int)<9:=by omega
 subst hkk;simp only[ja,aA.cells,aB.val,ag.kind,ag.name,ag.n,ag.terms,ag.binds,ag.l,List.length_cons,List.length_nil,Nat.zero_add,Nat.reduceAdd] at*;go_enter Tryz.func115,Tryz.ntmps115;go_wp2_with fail;have PV:=Lh (Ej.out _ HB.out.drew);go_region_with (go_at_call 150;refine PV.out.mono ?_;rintro e w' ⟨v,rfl,hon,hb⟩;have HW:=Lh hb;clear hb hon)
 all_goals
  go_wp2_with fail;go_ret;exact⟨rfl,HB.out.drew.trans (HW.out.mono (by simp))⟩
end Go.Proofs.YtncnnbmeacpboaaGreatDoor
namespace Go.aa
open Go.RowKit
variable {w W W':World} {l:List ag} {b cap j B C lo sz H:Nat} {cs:List Value} {T e t:TypeId} {fz:Nat×Nat} {F:Nat->Prop} {xs:List D} {f:ag} {kind n:Int} {name:Bs} {a binds bs:List aH} {want:Option (List Int)} {out:List Int} {terms:List bV} {met:List Bs} {r:List aV} {x:aV} {s:ax} {y:aA}
def Jt(s:Int)(name:Bs):Bool:=([8,2,6]:List Int).contains s||name==[61]||name==[33,61]
theorem zA{t u:bV}(h1:(aU a t).2=0)(h2:(aU a u).2=0){s1 s2:Int}(e1:(aU a t).1=s1)(e2:(aU a u).1=s2):jk a name t u=if(s1 !=s2||!(Jt s1 name))=true then 80 else 0:=by
 unfold jk Jt;rw[if_neg (by rw[h1];simp),if_neg (by rw[h2];simp),e1,e2];congr 1;simp;constructor
 ·rintro(h|h)
  ·exact .inl h
  ·exact .inr ⟨⟨⟨h.1,h.2.1,h.2.2.1⟩,h.2.2.2.1⟩,h.2.2.2.2⟩
 ·rintro(h|⟨⟨⟨a,b,c⟩,d⟩,e⟩)
  ·exact .inl h
  ·exact .inr ⟨a,b,c,d,e⟩
end Go.aa
namespace Go.Proofs.YtncnnbmeacpboaaGreatDoor
open Go.RowKit Go.aa
variable {w W W':World} {l:List ag} {b cap j B C lo sz H:Nat} {cs:List Value} {T e t:TypeId} {fz:Nat×Nat} {F:Nat->Prop} {xs:List D} {f:ag} {kind n:Int} {name:Bs} {a binds bs:List aH} {want:Option (List Int)} {out:List Int} {terms:List bV} {met:List Bs} {r:List aV} {x:aV} {s:ax} {y:aA}
theorem Ha(a:List aH)(x:aB)(name:Bs)(n:Int)(terms:List bV)(binds:List aH)(fl:List ag)(y:aA)(w:World)(hx:ak w (·<w.heap.size) (a.map aH.toD) x)(hy:ak w (·<w.heap.size) (terms.map bV.toD) y.t)(hl:a.length<=2000000)(hf:aD (.mk 9 name n terms binds fl)=true)(hg:GG w):
  Calls Tryz.prog 115 #[.slice x.a a.length x.cap,ja (.mk 9 name n terms binds fl,y)] w fun e w'=>e=.returned (.int .i64 (eP a (.mk 9 name n terms binds fl)))/\Below w.heap.size w w':=by
 obtain⟨t,u,ht,htk⟩:=nT hf (by decide);have dD:Below w.heap.size w (w.alloc (.cells (y.cells (.mk 9 name n terms binds fl)).toArray 64)):=(Below.refl _ _).alloc (Nat.le_refl _) _;have hwf:eP a (.mk 9 name n terms binds fl)=jk a name t u:=by rw[ht,uZ,if_pos rfl]
 subst ht;have hss:=Du a x [t,u] y.t _ (hx.later dD dD.size) (hy.later dD dD.size) hl (by simp) htk (hg.below dD);rw[Dv] at hss;obtain⟨s1,hs1⟩:∃s1,(aU a t).1=s1:=⟨_,rfl⟩;obtain⟨s2,hs2⟩:∃s2,(aU a u).1=s2:=⟨_,rfl⟩;obtain⟨c1,hc1⟩:∃c1,(aU a t).2=c1:=⟨_,rfl⟩;obtain⟨c2,hc2⟩:∃c2,(aU a u).2=c2:=⟨_,rfl⟩;rw[hs1,hs2,hc1,hc2] at hss;have HB:=Lh dD;have I7:∀(fn:Fn) (first cap:Array Value) (w:World),(Instr.makeFunc fn first cap).run Tryz.prog w=.ok (.func fn first cap) w:=fun _ _ _ _=>rfl;rw[hwf];have HG:=Lh hg;clear hwf hx hy hg hf htk;simp only[ja,aA.cells,aB.val,ag.kind,ag.name,ag.n,ag.terms,ag.binds,ag.l,List.length_cons,List.length_nil,Nat.zero_add,Nat.reduceAdd] at hss dD HB ⊢;by_cases h1:c1≠0
 ·rw[if_pos h1] at hss;have he:jk a name t u=c1:=by unfold jk;rw[hc1,if_pos h1]
  rw[he];have Ej:=Lh hss;have h1':(c1 !=0)=true:=by simpa using h1
  have HD:=Lh h1;clear hss dD he hs1 hs2 hc1 hc2 h1;go_enter Tryz.func115,Tryz.ntmps115;go_wp2_with fail;refine Ej.out.mono ?_;rintro e w1 ⟨v,rfl,hon,hb⟩;have HW:=Lh hb;clear hb hon;go_wp2_with fail;go_ret;exact⟨rfl,HB.out.trans (HW.out.mono HB.out.size)⟩
 ·rw[if_neg h1] at hss;have h1z:c1=0:=by omega
  by_cases h2:c2≠0
  ·rw[if_pos h2] at hss;have he:jk a name t u=c2:=by unfold jk;rw[hc1,if_neg h1,hc2,if_pos h2]
   rw[he];have Ej:=Lh hss;have h2':(c2 !=0)=true:=by simpa using h2
   clear hss dD he hs1 hs2 hc1 hc2 h1 h1z h2;go_enter Tryz.func115,Tryz.ntmps115;go_wp2_with fail;refine Ej.out.mono ?_;rintro e w1 ⟨v,rfl,hon,hb⟩;have HW:=Lh hb;clear hb hon;go_wp2_with fail;go_ret;exact⟨rfl,HB.out.trans (HW.out.mono HB.out.size)⟩
  ·rw[if_neg h2] at hss;have he:=zA (name:=name) (hc1.trans h1z) (hc2.trans (by omega)) hs1 hs2;rw[he];have Ej:=Lh hss;obtain⟨od,hod⟩:∃od,od=Jt s1 name:=⟨_,rfl⟩;rw[<-hod];have HO:=Lh hod;obtain⟨rv,QS⟩:∃rv,rv=(if(s1 !=s2||!od)=true then(80:Int) else 0):=⟨_,rfl⟩;rw[<-QS];have Ua:=Lh QS;clear QS;clear hss dD he hs1 hs2 hc1 hc2 h1 h1z h2 hod;go_enter Tryz.func115,Tryz.ntmps115;go_wp2_with fail;refine Ej.out.mono ?_;rintro e w1 ⟨v,rfl,hon,hb⟩;have HW:=Lh (HB.out.trans (hb.mono HB.out.size));obtain⟨x0,rfl,hx0⟩:=hon.sl (by rw[fJ];simp);obtain⟨k1,_,_,_,k5⟩:=hx0.ints;obtain⟨ka,_⟩:=k1 (by simp);have q0:=k5 0 (by simp);have q1:=k5 1 (by simp);simp only[List.getElem_cons_zero,List.getElem_cons_succ,Nat.add_zero] at q0 q1;simp only[fI,List.length_cons,List.length_nil,Nat.zero_add,Nat.reduceAdd,aB.val];rw[ka];have hbx:w1.heap[w.heap.size]?=some (.cells #[.int .i64 9,.string ⟨name.toArray⟩,.int .i64 n,.slice y.t.a 2 y.t.cap,.slice y.b.a binds.length y.b.cap,.slice y.l.a fl.length y.l.cap] 64 (0,0)):=boxed (B:=w.heap.size+1) (by simpa using hb) (by omega);have b1:w1.cell? ⟨w.heap.size,1,none⟩=some (.string ⟨name.toArray⟩):=cH hbx rfl;clear hb hon hx0 k1 k5 ka hbx;have hc:=tJ [8,2,6] ⟨some ⟨w1.heap.size,0,none⟩,w1.heap.size,0,3⟩ s1 (w1.alloc (.cells #[.int .i64 8,.int .i64 2,.int .i64 6] 3))
    (ak.lit (cs:=[.int .i64 8,.int .i64 2,.int .i64 6]) (boxed (B:=w1.heap.size+1) (Below.refl _ _) (by omega)) (au.ints (xs:=[8,2,6]) (fun z hz=>by simp at hz;omega)) (by simp) (Nat.le_refl _) (by decide)) (by simp)
   have LA:=HO.out;unfold Jt at LA;clear HO;generalize ([8,2,6]:List Int).contains s1=c0 at hc LA;have HC:=Lh hc;have wN:=Lh (HW.out.alloc HW.out.size (.cells #[.int .i64 8,.int .i64 2,.int .i64 6] 3));have b1':=eY (x:=.cells #[.int .i64 8,.int .i64 2,.int .i64 6] 3) b1;have hcase:(c0=true/\od=true)∨(c0=false/\name=[61]/\od=true)∨(c0=false/\name=[33,61]/\od=true)∨(c0=false/\(name==[61])=false/\(name==[33,61])=false/\od=false):=by
    cases c0
    ·by_cases h1:name=[61]
     ·exact .inr (.inl ⟨rfl,h1,by rw[LA,h1];rfl⟩)
     ·by_cases h2:name=[33,61]
      ·exact .inr (.inr (.inl ⟨rfl,h2,by rw[LA,h2];rfl⟩))
      ·have e1:(name==[61])=false:=by simpa using h1
       have e2:(name==[33,61])=false:=by simpa using h2
       exact .inr (.inr (.inr ⟨rfl,e1,e2,by rw[LA,e1,e2];rfl⟩))
    ·exact .inl ⟨rfl,by rw[LA];rfl⟩
   have hd:(s1 !=s2)=true∨(s1 !=s2)=false:=by cases (s1 !=s2)<;>simp
   clear hc LA;rcases hcase with⟨rfl,rfl⟩|⟨rfl,rfl,rfl⟩|⟨rfl,rfl,rfl⟩|⟨rfl,hn1,hn2,rfl⟩
   all_goals
    rcases hd with hd|hd
    all_goals
     have TH:=Lh hd
     try(obtain rfl:=int_eq hd;clear hd)
     go_wp2_with fail;refine HC.out.mono ?_;rintro e w2 ⟨rfl,rfl⟩;go_wp2_with fail;go_quiet (fail);go_wp2_with fail;go_ret;exact⟨aP (by rw[Ua.out,TH.out];rfl),wN.out.trans ⟨rfl,rfl,rfl,Nat.le_refl _,fun _ _=>rfl⟩⟩
end Go.Proofs.YtncnnbmeacpboaaGreatDoor
namespace Go.aa
open Go.RowKit
variable {w W W':World} {l:List ag} {b cap j B C lo sz H:Nat} {cs:List Value} {T e t:TypeId} {fz:Nat×Nat} {F:Nat->Prop} {xs:List D} {f:ag} {kind n:Int} {name:Bs} {a binds bs:List aH} {want:Option (List Int)} {out:List Int} {terms:List bV} {met:List Bs} {r:List aV} {x:aV} {s:ax} {y:aA}
theorem vJ{b:aH}{r l:List aH}(hl:l=b::r){i:Nat}(h:d9 bs b.name=some i):bY bs l=none:=by
 subst hl;rw[bY,if_pos (by rw[h];rfl)]
theorem vI{b:aH}{r l:List aH}(hl:l=b::r)(h:d9 bs b.name=none):bY bs l=bY (bs++[b]) r:=by
 subst hl;rw[bY,if_neg (by rw[h];simp)]
theorem DV{r:List ag}(hl:l=f::r){c:Int}(h:eP bs f=c)(hc:c≠0):jg bs l=c:=by
 subst hl;rw[jg,h,if_pos hc]
theorem AB{r:List ag}(hl:l=f::r)(h:eP bs f=0):jg bs l=jg bs r:=by
 subst hl;rw[jg,h,if_neg (by simp)]
theorem yz{fl:List ag}(h:(aN (.mk kind name n terms binds fl)).all aD=true)(j:Nat)(hj:j<fl.length):(aN fl[j]).all aD=true:=by
 rw[aN,List.all_cons,Bool.and_eq_true] at h;have:∀(l:List ag),(df l).all aD=true->∀g∈l,(aN g).all aD=true:=by
  intro l
  induction l with
  |nil=>intro _ g hg;cases hg
  |cons x r ih=>
   intro hl g hg;rw[df,List.all_append,Bool.and_eq_true] at hl;rcases List.mem_cons.1 hg with rfl|hg
   ·exact hl.1
   ·exact ih hl.2 g hg
 exact this fl h.2 _ (List.getElem_mem hj)
end Go.aa
namespace Go.Proofs.YtncnnbmeacpboaaGreatDoor
open Go.RowKit Go.aa
variable {w W W':World} {l:List ag} {b cap j B C lo sz H:Nat} {cs:List Value} {T e t:TypeId} {fz:Nat×Nat} {F:Nat->Prop} {xs:List D} {f:ag} {kind n:Int} {name:Bs} {a binds bs:List aH} {want:Option (List Int)} {out:List Int} {terms:List bV} {met:List Bs} {r:List aV} {x:aV} {s:ax} {y:aA}
theorem AJ(kind:Int)(name:Bs)(n:Int)(binds:List aH)(fl:List ag)(ih:∀(j:Nat) (hj:j<fl.length) (a:List aH) (x:aB) (y:aA) (w:World),ak w (·<w.heap.size) (a.map aH.toD) x->aJ w (·<w.heap.size) fl[j] y->a.length+6*fl[j].depth<=1900000->GG w->
   Calls Tryz.prog 115 #[.slice x.a a.length x.cap,ja (fl[j],y)] w fun e w'=>e=.returned (.int .i64 (eP a fl[j]))/\Below w.heap.size w w')(a:List aH)(x:aB)(y:aA)(w:World)(hx:ak w (·<w.heap.size) (a.map aH.toD) x)(hy:aJ w (·<w.heap.size) (.mk kind name n [] binds fl) y)(hl:a.length+6*(bN fl+1)<=1900000)(hb6:binds.length<=6)(hfl:fl.length<=2000000)(h9:(kind==9)=false)(hg:GG w):
  Calls Tryz.prog 115 #[.slice x.a a.length x.cap,ja (.mk kind name n [] binds fl,y)] w fun e w'=>e=.returned (.int .i64 (eP a (.mk kind name n [] binds fl)))/\Below w.heap.size w w':=by
 have dD:Below w.heap.size w (w.alloc (.cells (y.cells (.mk kind name n [] binds fl)).toArray 64)):=(Below.refl _ _).alloc (Nat.le_refl _) _;have hcap:a.length<=x.cap:=by have:=hx.le;simpa using this
 have hcm:=hx.max;obtain⟨g1,_,_,g4,g5⟩:=hy.binds.flat aH.bZ;have hnil:x.a=none->a.map aH.toD=[]:=fun hn=>by
  cases ha:a with
  |nil=>rfl
  |cons b r=>have:=(hx.at_ (by rw[ha];simp)).1;rw[this] at hn;cases hn
 have hsl:ak w (·<w.heap.size) (a.map aH.toD) ⟨x.a,x.b,x.o,a.length⟩:=⟨hx.at_,by simp,by show a.length<=maxLen;omega,hx.row⟩;have hon:fu (w.alloc (.cells (y.cells (.mk kind name n [] binds fl)).toArray 64)) (w.heap.size+1) (fun _=>False) 94 2 (.slice x.a a.length a.length) (a.map aH.toD):=
  .inl ⟨⟨x.a,x.b,x.o,a.length⟩,by simp,by simp,(hsl.agree (af dD)).mono (fun k hk=>Nat.lt_succ_of_lt hk),hnil,eH aH.bZ a,by simp,fun _ h=>h.elim⟩
 have HC:=Lh g4;have Io:=Lh g5;have Ky:Hid (∀(j:Nat) (hj:j<fl.length),∃y1:aA,aJ w (·<w.heap.size) fl[j] y1/\av w y.l.b (y.l.o+j*6) (y1.cells fl[j])):=Lh (fun(j:Nat) (hj:j<fl.length)=>hy.l.Cm j hj);have Ey:=Lh hy.l.at_;have Kz:=Lh ih;have HG:=Lh hg;have HW:=Lh (pg a kind name n binds fl);have HB:=Lh dD;have jS:=Lh hon;have PD:=Lh g1;obtain⟨i0,hi,hz0,hz1,hz2⟩:=info_parts Jf;clear hx hy g1 g4 g5 ih hg dD hon hnil hsl;simp only[ja,aA.cells,aB.val,ag.kind,ag.name,ag.n,ag.terms,ag.binds,ag.l,List.length_nil] at HC Io PD Ey HB jS ⊢;generalize eP a (.mk kind name n [] binds fl)=res at HW ⊢;go_enter Tryz.func115,Tryz.ntmps115;go_wp2_with (go_at_call 153;refine(ET _ _ _ hcap hcm _).mono ?_;rintro e w' ⟨rfl,rfl⟩);go_loopw [10,80] (fun v i wr=>∃(j:Nat) (bs:List aH),j<=binds.length/\i=.int .i64 j/\Below w.heap.size w wr/\Hid (wr.heap[w.heap.size]?=some (.cells #[.int .i64 kind,.string ⟨name.toArray⟩,.int .i64 n,.slice y.t.a 0 y.t.cap,.slice y.b.a binds.length y.b.cap,.slice y.l.a fl.length y.l.cap] 64 (0,0)))/\Hid (fu wr (w.heap.size+1) (fun _=>False) 94 2 v (bs.map aH.toD))/\Hid (bs.length=a.length+j/\bY a binds=bY bs (binds.drop j))) (fun _ i _=>binds.length-(intOf i).toNat)
 case atStart=>exact⟨0,a,Nat.zero_le _,rfl,HB.out,Lh (boxed (B:=w.heap.size+1) (Below.refl _ _) (by omega)),jS,Lh ⟨rfl,rfl⟩⟩
 case round=>
  obtain⟨j,bs,hj,rfl,hb,gJ,HO,HE⟩:=hrel;clear jS;obtain⟨x1,hv,hx1⟩:=HO.out.sl (by rw[bC aH.bZ,List.length_map]);rw[List.length_map] at hv;subst hv;have hbl:bs.length<=1900000:=by have:=HE.out.1;omega
  have RX:=Lh hx1;clear hx1;by_cases hlt:j<binds.length
  ·obtain⟨hxa,NF⟩:=PD.out (by omega);obtain⟨q0,q1⟩:=HC.out.two j hlt rfl;have e0:=(hb.cell (p:=⟨y.b.b,y.b.o+j*2,none⟩) NF).trans q0;have e1:=(hb.cell (p:=⟨y.b.b,y.b.o+j*2+1,none⟩) NF).trans q1;have dD:Below w.heap.size w (wr.alloc (.cells #[.string ⟨binds[j].name.toArray⟩,.int .i64 binds[j].sort] 94)):=hb.alloc hb.size _;have hbr:Below wr.heap.size wr (wr.alloc (.cells #[.string ⟨binds[j].name.toArray⟩,.int .i64 binds[j].sort] 94)):=(Below.refl _ _).alloc (Nat.le_refl _) _;have Ed:=Lh (rA bs x1 binds[j].name _ (RX.out.later hbr hbr.size) (by omega));have Ez:=Lh (HO.out.below hbr);have JX:=Lh (Io.out _ (List.getElem_mem hlt));have hdrop:binds.drop j=binds[j]::binds.drop (j+1):=List.drop_eq_getElem_cons hlt;have HDR:=Lh hdrop;have pE:=Lh dD;rw[hxa] at gJ ⊢;clear q0 q1 dD hbr hdrop;generalize hbe:binds[j]=be at Ed Ez JX HDR pE e0 e1;clear hbe;obtain⟨nm,so⟩:=be;simp only at Ed Ez pE e0 e1;cases hf:d9 bs nm with
   |some i=>
    have hfi:jL bs nm=i:=by unfold jL;rw[hf]
    rw[hfi] at Ed;have HR:Hid (res=82):=Lh (by rw[HW.out,HE.out.2,vJ HDR.out hf]);clear hf hfi;go_wp2_with fail;refine Ed.out.mono ?_;rintro e w1 ⟨rfl,hb1⟩;have HB1:=Lh (pE.out.trans (hb1.mono pE.out.size));clear hb1;go_wp2_with fail;go_ret;exact⟨aP HR.out.symm,HB1.out⟩
   |none=>
    have hfi:jL bs nm= -1:=by unfold jL;rw[hf]
    rw[hfi] at Ed;have HR:=Lh (HE.out.2.trans (vI HDR.out hf));clear hf hfi;go_wp2_with fail;refine Ed.out.mono ?_;rintro e w1 ⟨rfl,hb1⟩;have HB1:=Lh (pE.out.trans (hb1.mono pE.out.size));have q0:w1.cell? ⟨wr.heap.size,0,none⟩=some (.string ⟨nm.toArray⟩):=cH (boxed (B:=wr.heap.size+1) (by simpa using hb1) (by omega)) rfl;have q1:w1.cell? ⟨wr.heap.size,1,none⟩=some (.int .i64 so):=cH (boxed (B:=wr.heap.size+1) (by simpa using hb1) (by omega)) rfl;have M5:=Lh (Ez.out.below hb1);have Be:=(gS gJ.out).1;have ML:=Lh ((hb1.block w.heap.size (by simp;omega)).trans ((Below.heap_alloc _ _ _ Be).trans gJ.out));clear hb1;go_wp2_with (at_builtin;go_must (refine il rfl _ _ 179 rfl 94 i0 _ 2 24 Tryz.underlying179 hi hz0 hz1 hz2 rfl (by decide) (.slice x1.a bs.length x1.cap) (bs.map aH.toD) (aH.toD ⟨nm,so⟩) [.string ⟨nm.toArray⟩,.int .i64 so] 94 rfl rfl M5.out (au.nS (aH.bZ.flat _) JX.out) (by have:=(gS ML.out).1;omega) rfl (by rw[bC aH.bZ,List.length_map]) (by rw[List.length_map];unfold maxLen;omega) (by rw[List.length_map];omega) ?_);intro ao cap w5 hon hb5;have jS:=Lh (aI hon (aI (HB1.out.trans (hb5.mono (by omega))) ((hb5.block _ (by omega)).trans ML.out)));clear hon hb5);refine⟨⟨j+1,bs++[⟨nm,so⟩],by omega,by go_num,jS.out.2.1,Lh jS.out.2.2,Lh ?_,Lh ⟨by have:=HE.out.1;simp;omega,HR.out⟩⟩,by simp[intOf];omega⟩;have:=jS.out.1;rw[List.length_map] at this;simpa using this
  ·have hjb:j=binds.length:=by omega
   obtain⟨wo,rfl⟩:∃wo,wo=wr:=⟨_,rfl⟩;have HR:Hid (res=jg bs fl):=Lh (by rw[HW.out,HE.out.2,hjb,List.drop_length,bY]);have UA:bs.length+6*bN fl<=1900000:=by have:=HE.out.1;omega
   have Mc:=Lh hb;have Nh:=Lh (fun(W:World) (hW:Below wo.heap.size wo W)=>RX.out.later hW hW.size);have b5:wo.cell? ⟨w.heap.size,5,none⟩=some (.slice y.l.a fl.length y.l.cap):=cH gJ.out rfl;clear HC Io PD HO HE HB gJ hjb;go_wp2_with fail;go_loopw [97] (fun i wr=>∃j2:Nat,j2<=fl.length/\i=.int .i64 j2/\Below wo.heap.size wo wr/\Hid (jg bs fl=jg bs (fl.drop j2))) (fun i _=>fl.length-(intOf i).toNat)
   case atStart=>exact⟨0,Nat.zero_le _,rfl,Below.refl _ _,Lh rfl⟩
   case round=>
    obtain⟨j2,hj2,rfl,hb2,HE2⟩:=hrel;by_cases hlt2:j2<fl.length
    ·obtain⟨y1,hy1,hy2⟩:=Ky.out j2 hlt2;obtain⟨hxa,l7⟩:=Ey.out (by rw[List.length_map];omega);have hbw:Below w.heap.size w wr:=Mc.out.trans (hb2.mono Mc.out.size);obtain⟨e0,e1,e2,e3,e4,e5⟩:=(hy2.agree (af hbw) l7).six;have hbr:Below wo.heap.size wo (wr.alloc (.cells (y1.cells fl[j2]).toArray 64)):=hb2.alloc hb2.size _;have hbw2:Below w.heap.size w (wr.alloc (.cells (y1.cells fl[j2]).toArray 64)):=hbw.alloc hbw.size _;have hdp:=jY fl j2 hlt2;have iP:=Lh (Kz.out j2 hlt2 bs x1 y1 (wr.alloc (.cells (y1.cells fl[j2]).toArray 64)) (Nh.out _ hbr) (hy1.later hbw2 hbw2.size) (by omega) (HG.out.below hbw2));have BH:=Lh hbr;have hdrop:fl.drop j2=fl[j2]::fl.drop (j2+1):=List.drop_eq_getElem_cons hlt2;have HDR:=Lh hdrop;obtain⟨c,hc⟩:∃c,eP bs fl[j2]=c:=⟨_,rfl⟩;rw[hc] at iP;have JW:=Lh hc;rw[hxa];clear hy1 hy2 l7 hbw hbr hbw2 hdrop hc hdp;generalize fl[j2]=fe at iP BH HDR JW e0 e1 e2 e3 e4 e5;obtain⟨rP,rU,n1,nz,mQ,KY⟩:=fe;simp only[ja,aA.cells,aB.val,ag.kind,ag.name,ag.n,ag.terms,ag.binds,ag.l] at iP BH e0 e1 e2 e3 e4 e5;have hcd:(c≠0/\(c !=0)=true)∨(c=0/\(c !=0)=false):=by by_cases h:c=0<;>simp[h]
     rcases hcd with⟨d1,d2⟩|⟨d1,d2⟩
     ·have HD:=Lh (HR.out.trans (HE2.out.trans (DV HDR.out JW.out d1)));clear d1;go_wp2_with fail;refine iP.out.mono ?_;rintro e w1 ⟨rfl,hb1⟩;have HB1:=Lh (Mc.out.trans ((BH.out.trans (hb1.mono BH.out.size)).mono Mc.out.size));clear hb1;go_wp2_with fail;go_ret;exact⟨aP HD.out.symm,HB1.out⟩
     ·subst d1;clear d2;have HD:=Lh (HE2.out.trans (AB HDR.out JW.out));go_wp2_with fail;refine iP.out.mono ?_;rintro e w1 ⟨rfl,hb1⟩;have HB1:=Lh (BH.out.trans (hb1.mono BH.out.size));clear hb1;go_wp2_with fail;exact⟨⟨j2+1,by omega,by go_num,HB1.out,HD⟩,by simp[intOf];omega⟩
    ·go_wp2_with fail;go_ret;have hjl:j2=fl.length:=by omega
     exact⟨aP (by rw[HR.out,HE2.out,hjl,List.drop_length,jg]),Mc.out.trans (hb2.mono Mc.out.size)⟩
theorem BU(m:Nat):∀(f:ag) (a:List aH) (x:aB) (y:aA) (w:World),f.size<=m->f.size<=2000000->(aN f).all aD=true->ak w (·<w.heap.size) (a.map aH.toD) x->aJ w (·<w.heap.size) f y->a.length+6*f.depth<=1900000->GG w->
  Calls Tryz.prog 115 #[.slice x.a a.length x.cap,ja (f,y)] w fun e w'=>e=.returned (.int .i64 (eP a f))/\Below w.heap.size w w':=by
 induction m with
 |zero=>intro f _ _ _ _ h;have:=f.size_pos;omega
 |succ m ih=>
  rintro⟨kind,name,n,terms,binds,fl⟩ a x y w hm hs hf hx hy hd hg;have hf1:aD (.mk kind name n terms binds fl)=true:=by
   rw[aN,List.all_cons,Bool.and_eq_true] at hf;exact hf.1
  rw[ag.size] at hm hs;rw[ag.depth] at hd;have hll:=dH fl;cases hk:dL kind
  ·obtain⟨ht,hb6⟩:=vO hf1 hk;subst ht;have h9:(kind==9)=false:=by
    unfold dL at hk;simp;intro h;subst h;simp at hk
   exact AJ kind name n binds fl (fun j hj a' x' y' w' h1 h2 h3 h4=>ih fl[j] a' x' y' w' (by have:=bQ fl j hj;omega) (by have:=bQ fl j hj;omega) (yz hf j hj) h1 h2 h3 h4) a x y w hx hy hd hb6 (by omega) h9 hg
  ·by_cases h9:kind=9
   ·subst h9;exact Ha a x name n terms binds fl y w hx hy.terms (by omega) hf1 hg
   ·exact DW a x kind name n terms binds fl y w hx hy.terms (by omega) hf1 (by unfold dL at hk;simp at hk;omega) hg
end Go.Proofs.YtncnnbmeacpboaaGreatDoor
namespace Go.aa
open Go.RowKit
variable {w W W':World} {l:List ag} {b cap j B C lo sz H:Nat} {cs:List Value} {T e t:TypeId} {fz:Nat×Nat} {F:Nat->Prop} {xs:List D} {f:ag} {kind n:Int} {name:Bs} {a binds bs:List aH} {want:Option (List Int)} {out:List Int} {terms:List bV} {met:List Bs} {r:List aV} {x:aV} {s:ax} {y:aA}
theorem ak.lt{x:aB}(h:ak w (·<B) xs x)(hC:B<=C):ak w (·<C) xs x:=h.mono (fun _ hk=>Nat.lt_of_lt_of_le hk hC)
structure KS (t:bV):Prop where
 kind:jh t.kind
 name:t.name.length<=4000000
 n:jh t.n
theorem bV.fine{t:bV}(h:KS t):t.toD.fine:=⟨h.kind.wf,by rw[D.fine,aS];have:=h.name;unfold maxLen;omega,h.n.wf,trivial⟩
end Go.aa
namespace Go.Proofs.YtncnnbmeacpboaaGreatDoor
open Go.RowKit Go.aa
variable {w W W':World} {l:List ag} {b cap j B C lo sz H:Nat} {cs:List Value} {T e t:TypeId} {fz:Nat×Nat} {F:Nat->Prop} {xs:List D} {f:ag} {kind n:Int} {name:Bs} {a binds bs:List aH} {want:Option (List Int)} {out:List Int} {terms:List bV} {met:List Bs} {r:List aV} {x:aV} {s:ax} {y:aA}
structure gL (r:aV):Prop where
 name:r.name.length<=4000000
 len:r.each.length<=1500000
 each:∀b∈r.each,b.name.length<=4000000
 body:iV r.body
theorem DR(r:aV)(y:kX)(w:World)(hy:jf w (·<w.heap.size) r y)(hf:gL r)(hg:GG w):
  Calls Tryz.prog 72 #[.agg (y.cells r).toArray] w fun e w'=>e=.returned (.int .i64 (dG r))/\Below w.heap.size w w':=by
 have dD:Below w.heap.size w (w.alloc (.cells (y.cells r).toArray 66)):=(Below.refl _ _).alloc (Nat.le_refl _) _;have hbx:(w.alloc (.cells (y.cells r).toArray 66)).heap[w.heap.size]?=some (.cells (y.cells r).toArray 66 (0,0)):=boxed (B:=w.heap.size+1) (Below.refl _ _) (by omega);have MS:=Lh (fun(W:World) (hW:Below w.heap.size w W)=>lN ⟨r.name,1⟩ W ⟨hf.name,(show jh 1 from jo (by decide) (by decide))⟩ (hg.below hW));have Im:=Lh (fun(W:World) (hW:Below w.heap.size w W)=>E8 r.each y.each W (hy.each.later hW hW.size) (by have:=hf.len;omega) hf.each (hg.below hW));have HM:=Lh (fun(W:World) (hW:Below w.heap.size w W)=>EG r.each y.each W (hy.each.later hW hW.size) (by have:=hf.len;omega) hf.each (hg.below hW));have MN:=Lh (fun(W:World) (hW:Below w.heap.size w W)=>mV r.body y.body W (hy.body.later hW hW.size) hf.body (hg.below hW));have Mk:=Lh (fun(W:World) (hW:Below w.heap.size w W) (h:aX r.body=0)=>BU r.body.size r.body r.each y.each y.body W (Nat.le_refl _) hf.body.size (jR.1 h).1 (hy.each.later hW hW.size) (hy.body.later hW hW.size) (by have:=(jR.1 h).2.2;have:=hf.len;omega) (hg.below hW));have HR:Hid (dG r=if bu ⟨r.name,1⟩=false∨r.weight<(if r.hard then 0 else 1)∨(if r.hard then 0 else 1000)<r.weight∨6<r.each.length∨r.each.all bu=false then 1
  else if aX r.body≠0 then aX r.body else if qy r.each=false then 82 else eP r.each r.body):=Lh rfl
 have HB:=Lh (aI dD hbx);clear hy dD hbx hg hf;generalize dG r=res at HR ⊢;obtain⟨name,hard,weight,each,⟨kind,fname,n,terms,binds,fl⟩⟩:=r;obtain⟨ye,yb⟩:=y;simp only at MS Im HM MN Mk HR;generalize bu ⟨name,1⟩=bo at MS HR;generalize each.all bu=eb at Im HR;generalize qy each=my at HM HR;generalize aX (.mk kind fname n terms binds fl)=fc at MN Mk HR;generalize eP each (.mk kind fname n terms binds fl)=wk at Mk HR;simp only[ja,kX.cells,aA.cells,aB.val,ag.kind,ag.name,ag.n,ag.terms,ag.binds,ag.l] at HB MN Mk HM Im MS ⊢;cases hard
 ·
  have hw1:((weight:Int)<1/\weight<1)∨(decide ((weight:Int)<1)=false/\¬weight<1):=by
   by_cases h:weight<1
   ·exact .inl ⟨h,h⟩
   ·exact .inr ⟨decide_eq_false h,h⟩
  have hw2:((1000:Int)<weight/\1000<weight)∨(decide ((1000:Int)<weight)=false/\¬1000<weight):=by
   by_cases h:1000<weight
   ·exact .inl ⟨h,h⟩
   ·exact .inr ⟨decide_eq_false h,h⟩
  have hw3:((6:Int)<(each.length:Int)/\6<each.length)∨(decide ((6:Int)<(each.length:Int))=false/\¬6<each.length):=by
   by_cases h:6<each.length
   ·exact .inl ⟨by omega,h⟩
   ·exact .inr ⟨decide_eq_false (by omega),h⟩
  have HR2:Hid (res=if bo=false∨weight<1∨1000<weight∨6<each.length∨eb=false then 1 else if fc≠0 then fc else if my=false then 82 else wk):=Lh (by rw[HR.out];rfl);clear HR;go_enter Tryz.func72,Tryz.ntmps72;go_wp2_with fail;refine(MS.out _ HB.out.1).mono ?_;rintro e w1 ⟨rfl,hb1⟩;have nW:=(hb1.block w.heap.size (by simp)).trans HB.out.2;have HB1:=Lh (aI (HB.out.1.trans (hb1.mono HB.out.1.size)) nW);clear hb1;cases bo
  ·clear nW;go_wp2_with fail;go_ret;exact⟨aP (by rw[HR2.out,if_pos (.inl (by first|rfl|trivial))]),HB1.out.1⟩
  ·have b2:w1.cell? ⟨w.heap.size,2,none⟩=some (.int .i64 weight):=cH nW rfl;have b3:w1.cell? ⟨w.heap.size,3,none⟩=some (.slice ye.a each.length ye.cap):=cH nW rfl;clear nW;rcases hw1 with⟨u1,v1⟩|⟨u1,v1⟩
   ·have HV:=Lh v1;clear v1;go_wp2_with fail;go_ret;exact⟨aP (by rw[HR2.out,if_pos (.inr (.inl HV.out))]),HB1.out.1⟩
   rcases hw2 with⟨u2,v2⟩|⟨u2,v2⟩
   ·have HV:=Lh v2;clear v1 v2;go_wp2_with fail;go_ret;exact⟨aP (by rw[HR2.out,if_pos (.inr (.inr (.inl HV.out)))]),HB1.out.1⟩
   rcases hw3 with⟨u3,v3⟩|⟨u3,v3⟩
   ·have HV:=Lh v3;clear v1 v2 v3;go_wp2_with fail;go_ret;exact⟨aP (by rw[HR2.out,if_pos (.inr (.inr (.inr (.inl HV.out))))]),HB1.out.1⟩
   have HV:=Lh (aI v1 (aI v2 v3));clear v1 v2 v3;go_wp2_with fail;refine(Im.out _ HB1.out.1).mono ?_;rintro e w2 ⟨rfl,hb2⟩;have jH:=(hb2.block w.heap.size ((gS HB1.out.2).1)).trans HB1.out.2;have HB2:=Lh (aI (HB1.out.1.trans (hb2.mono HB1.out.1.size)) jH);clear hb2 b2 b3;cases eb
   ·clear jH;go_wp2_with fail;go_ret;exact⟨aP (by rw[HR2.out,if_pos (.inr (.inr (.inr (.inr (by first|rfl|trivial)))))]),HB2.out.1⟩
   have HR3:Hid (res=if fc≠0 then fc else if my=false then 82 else wk):=Lh (by rw[HR2.out,if_neg (by have:=HV.out;simp;omega)]);have b4:w2.cell? ⟨w.heap.size,4,none⟩=some (.int .i64 kind):=cH jH rfl;have b5:w2.cell? ⟨w.heap.size,5,none⟩=some (.string ⟨fname.toArray⟩):=cH jH rfl;have b6:w2.cell? ⟨w.heap.size,6,none⟩=some (.int .i64 n):=cH jH rfl;have b7:w2.cell? ⟨w.heap.size,7,none⟩=some (.slice yb.t.a terms.length yb.t.cap):=cH jH rfl;have b8:w2.cell? ⟨w.heap.size,8,none⟩=some (.slice yb.b.a binds.length yb.b.cap):=cH jH rfl;have b9:w2.cell? ⟨w.heap.size,9,none⟩=some (.slice yb.l.a fl.length yb.l.cap):=cH jH rfl;clear jH;have hd:(fc≠0/\(fc !=0)=true)∨(fc=0/\(fc !=0)=false):=by by_cases h:fc=0<;>simp[h]
   go_wp2_with fail;refine(MN.out _ HB2.out.1).mono ?_;rintro e w3 ⟨rfl,hb3⟩;have vU:=(hb3.block w.heap.size ((gS HB2.out.2).1)).trans HB2.out.2;have HB3:=Lh (aI (HB2.out.1.trans (hb3.mono HB2.out.1.size)) vU);clear hb3 b4 b5 b6 b7 b8 b9;rcases hd with⟨d1,d2⟩|⟨d1,d2⟩
   ·have HD:=Lh d1;clear d1 vU;go_wp2_with fail;go_ret;exact⟨aP (by rw[HR3.out,if_pos HD.out]),HB3.out.1⟩
   subst d1;clear d2;have b3:w3.cell? ⟨w.heap.size,3,none⟩=some (.slice ye.a each.length ye.cap):=cH vU rfl;clear vU;go_wp2_with fail;refine(HM.out _ HB3.out.1).mono ?_;rintro e w4 ⟨rfl,hb4⟩;have kD:=(hb4.block w.heap.size ((gS HB3.out.2).1)).trans HB3.out.2;have wM:=Lh (HB3.out.1.trans (hb4.mono HB3.out.1.size));clear hb4 b3;cases my
   ·clear kD;go_wp2_with fail;go_ret;exact⟨aP (by rw[HR3.out];simp),wM.out⟩
   have b3:w4.cell? ⟨w.heap.size,3,none⟩=some (.slice ye.a each.length ye.cap):=cH kD rfl;have b4:w4.cell? ⟨w.heap.size,4,none⟩=some (.int .i64 kind):=cH kD rfl;have b5:w4.cell? ⟨w.heap.size,5,none⟩=some (.string ⟨fname.toArray⟩):=cH kD rfl;have b6:w4.cell? ⟨w.heap.size,6,none⟩=some (.int .i64 n):=cH kD rfl;have b7:w4.cell? ⟨w.heap.size,7,none⟩=some (.slice yb.t.a terms.length yb.t.cap):=cH kD rfl;have b8:w4.cell? ⟨w.heap.size,8,none⟩=some (.slice yb.b.a binds.length yb.b.cap):=cH kD rfl;have b9:w4.cell? ⟨w.heap.size,9,none⟩=some (.slice yb.l.a fl.length yb.l.cap):=cH kD rfl;clear kD;have P9:=Lh (Mk.out _ wM.out (by first|rfl|trivial));go_wp2_with fail;refine P9.out.mono ?_;rintro e w5 ⟨rfl,hb5⟩;have kY:=Lh (wM.out.trans (hb5.mono wM.out.size));clear hb5;go_wp2_with fail;go_ret;exact⟨aP (by rw[HR3.out];simp),kY.out⟩
 ·
  have hw1:((weight:Int)<0/\weight<0)∨(decide ((weight:Int)<0)=false/\¬weight<0):=by
   by_cases h:weight<0
   ·exact .inl ⟨h,h⟩
   ·exact .inr ⟨decide_eq_false h,h⟩
  have hw2:((0:Int)<weight/\0<weight)∨(decide ((0:Int)<weight)=false/\¬0<weight):=by
   by_cases h:0<weight
   ·exact .inl ⟨h,h⟩
   ·exact .inr ⟨decide_eq_false h,h⟩
  have hw3:((6:Int)<(each.length:Int)/\6<each.length)∨(decide ((6:Int)<(each.length:Int))=false/\¬6<each.length):=by
   by_cases h:6<each.length
   ·exact .inl ⟨by omega,h⟩
   ·exact .inr ⟨decide_eq_false (by omega),h⟩
  have HR2:Hid (res=if bo=false∨weight<0∨0<weight∨6<each.length∨eb=false then 1 else if fc≠0 then fc else if my=false then 82 else wk):=Lh (by rw[HR.out];rfl);clear HR;go_enter Tryz.func72,Tryz.ntmps72;go_wp2_with fail;refine(MS.out _ HB.out.1).mono ?_;rintro e w1 ⟨rfl,hb1⟩;have nW:=(hb1.block w.heap.size (by simp)).trans HB.out.2;have HB1:=Lh (aI (HB.out.1.trans (hb1.mono HB.out.1.size)) nW);clear hb1;cases bo
  ·clear nW;go_wp2_with fail;go_ret;exact⟨aP (by rw[HR2.out,if_pos (.inl (by first|rfl|trivial))]),HB1.out.1⟩
  ·have b2:w1.cell? ⟨w.heap.size,2,none⟩=some (.int .i64 weight):=cH nW rfl;have b3:w1.cell? ⟨w.heap.size,3,none⟩=some (.slice ye.a each.length ye.cap):=cH nW rfl;clear nW;rcases hw1 with⟨u1,v1⟩|⟨u1,v1⟩
   ·have HV:=Lh v1;clear v1;go_wp2_with fail;go_ret;exact⟨aP (by rw[HR2.out,if_pos (.inr (.inl HV.out))]),HB1.out.1⟩
   rcases hw2 with⟨u2,v2⟩|⟨u2,v2⟩
   ·have HV:=Lh v2;clear v1 v2;go_wp2_with fail;go_ret;exact⟨aP (by rw[HR2.out,if_pos (.inr (.inr (.inl HV.out)))]),HB1.out.1⟩
   rcases hw3 with⟨u3,v3⟩|⟨u3,v3⟩
   ·have HV:=Lh v3;clear v1 v2 v3;go_wp2_with fail;go_ret;exact⟨aP (by rw[HR2.out,if_pos (.inr (.inr (.inr (.inl HV.out))))]),HB1.out.1⟩
   have HV:=Lh (aI v1 (aI v2 v3));clear v1 v2 v3;go_wp2_with fail;refine(Im.out _ HB1.out.1).mono ?_;rintro e w2 ⟨rfl,hb2⟩;have jH:=(hb2.block w.heap.size ((gS HB1.out.2).1)).trans HB1.out.2;have HB2:=Lh (aI (HB1.out.1.trans (hb2.mono HB1.out.1.size)) jH);clear hb2 b2 b3;cases eb
   ·clear jH;go_wp2_with fail;go_ret;exact⟨aP (by rw[HR2.out,if_pos (.inr (.inr (.inr (.inr (by first|rfl|trivial)))))]),HB2.out.1⟩
   have HR3:Hid (res=if fc≠0 then fc else if my=false then 82 else wk):=Lh (by rw[HR2.out,if_neg (by have:=HV.out;simp;omega)]);have b4:w2.cell? ⟨w.heap.size,4,none⟩=some (.int .i64 kind):=cH jH rfl;have b5:w2.cell? ⟨w.heap.size,5,none⟩=some (.string ⟨fname.toArray⟩):=cH jH rfl;have b6:w2.cell? ⟨w.heap.size,6,none⟩=some (.int .i64 n):=cH jH rfl;have b7:w2.cell? ⟨w.heap.size,7,none⟩=some (.slice yb.t.a terms.length yb.t.cap):=cH jH rfl;have b8:w2.cell? ⟨w.heap.size,8,none⟩=some (.slice yb.b.a binds.length yb.b.cap):=cH jH rfl;have b9:w2.cell? ⟨w.heap.size,9,none⟩=some (.slice yb.l.a fl.length yb.l.cap):=cH jH rfl;clear jH;have hd:(fc≠0/\(fc !=0)=true)∨(fc=0/\(fc !=0)=false):=by by_cases h:fc=0<;>simp[h]
   go_wp2_with fail;refine(MN.out _ HB2.out.1).mono ?_;rintro e w3 ⟨rfl,hb3⟩;have vU:=(hb3.block w.heap.size ((gS HB2.out.2).1)).trans HB2.out.2;have HB3:=Lh (aI (HB2.out.1.trans (hb3.mono HB2.out.1.size)) vU);clear hb3 b4 b5 b6 b7 b8 b9;rcases hd with⟨d1,d2⟩|⟨d1,d2⟩
   ·have HD:=Lh d1;clear d1 vU;go_wp2_with fail;go_ret;exact⟨aP (by rw[HR3.out,if_pos HD.out]),HB3.out.1⟩
   subst d1;clear d2;have b3:w3.cell? ⟨w.heap.size,3,none⟩=some (.slice ye.a each.length ye.cap):=cH vU rfl;clear vU;go_wp2_with fail;refine(HM.out _ HB3.out.1).mono ?_;rintro e w4 ⟨rfl,hb4⟩;have kD:=(hb4.block w.heap.size ((gS HB3.out.2).1)).trans HB3.out.2;have wM:=Lh (HB3.out.1.trans (hb4.mono HB3.out.1.size));clear hb4 b3;cases my
   ·clear kD;go_wp2_with fail;go_ret;exact⟨aP (by rw[HR3.out];simp),wM.out⟩
   have b3:w4.cell? ⟨w.heap.size,3,none⟩=some (.slice ye.a each.length ye.cap):=cH kD rfl;have b4:w4.cell? ⟨w.heap.size,4,none⟩=some (.int .i64 kind):=cH kD rfl;have b5:w4.cell? ⟨w.heap.size,5,none⟩=some (.string ⟨fname.toArray⟩):=cH kD rfl;have b6:w4.cell? ⟨w.heap.size,6,none⟩=some (.int .i64 n):=cH kD rfl;have b7:w4.cell? ⟨w.heap.size,7,none⟩=some (.slice yb.t.a terms.length yb.t.cap):=cH kD rfl;have b8:w4.cell? ⟨w.heap.size,8,none⟩=some (.slice yb.b.a binds.length yb.b.cap):=cH kD rfl;have b9:w4.cell? ⟨w.heap.size,9,none⟩=some (.slice yb.l.a fl.length yb.l.cap):=cH kD rfl;clear kD;have P9:=Lh (Mk.out _ wM.out (by first|rfl|trivial));go_wp2_with fail;refine P9.out.mono ?_;rintro e w5 ⟨rfl,hb5⟩;have kY:=Lh (wM.out.trans (hb5.mono wM.out.size));clear hb5;go_wp2_with fail;go_ret;exact⟨aP (by rw[HR3.out];simp),kY.out⟩
end Go.Proofs.YtncnnbmeacpboaaGreatDoor
namespace Go.aa
open Go.RowKit
variable {w W W':World} {l:List ag} {b cap j B C lo sz H:Nat} {cs:List Value} {T e t:TypeId} {fz:Nat×Nat} {F:Nat->Prop} {xs:List D} {f:ag} {kind n:Int} {name:Bs} {a binds bs:List aH} {want:Option (List Int)} {out:List Int} {terms:List bV} {met:List Bs} {r:List aV} {x:aV} {s:ax} {y:aA}
theorem av.ten{o:Nat}{c0 c1 c2 c3 c4 c5 c6 c7 c8 c9:Value}(h:av w b o [c0,c1,c2,c3,c4,c5,c6,c7,c8,c9]):w.cell? ⟨b,o,none⟩=some c0/\w.cell? ⟨b,o+1,none⟩=some c1/\w.cell? ⟨b,o+2,none⟩=some c2/\w.cell? ⟨b,o+3,none⟩=some c3/\w.cell? ⟨b,o+4,none⟩=some c4/\
  w.cell? ⟨b,o+5,none⟩=some c5/\w.cell? ⟨b,o+6,none⟩=some c6/\w.cell? ⟨b,o+7,none⟩=some c7/\w.cell? ⟨b,o+8,none⟩=some c8/\w.cell? ⟨b,o+9,none⟩=some c9:=
 ⟨by simpa using h 0 (by simp),by simpa using h 1 (by simp),by simpa using h 2 (by simp),by simpa using h 3 (by simp),by simpa using h 4 (by simp),by simpa using h 5 (by simp),by simpa using h 6 (by simp),by simpa using h 7 (by simp),by simpa using h 8 (by simp),by simpa using h 9 (by simp)⟩
theorem jf.later{w':World}{r:aV}{x:kX}(h:jf w (·<B) r x)(hb:Below B w w')(hC:B<=C):jf w' (·<C) r x:=(h.agree (af hb)).mono (fun _ hk=>Nat.lt_of_lt_of_le hk hC)
theorem Dk{l:List aV}(hl:l=x::r){e:Int}(he:dG x=e)(h:e≠0):fA met l j=((j:Int),e):=by
 subst hl;rw[fA,he,if_pos h]
theorem yJ{l:List aV}(hl:l=x::r)(he:dG x=0)(h:met.contains x.name=true):fA met l j=((j:Int),82):=by
 subst hl;rw[fA,he,if_neg (by simp),h,if_pos rfl]
theorem Ad{l:List aV}(hl:l=x::r)(he:dG x=0)(h:met.contains x.name=false):fA met l j=fA (met++[x.name]) r (j+1):=by
 subst hl;rw[fA,he,if_neg (by simp),h,if_neg (by simp)]
end Go.aa
namespace Go.Proofs.YtncnnbmeacpboaaGreatDoor
open Go.RowKit Go.aa
variable {w W W':World} {l:List ag} {b cap j B C lo sz H:Nat} {cs:List Value} {T e t:TypeId} {fz:Nat×Nat} {F:Nat->Prop} {xs:List D} {f:ag} {kind n:Int} {name:Bs} {a binds bs:List aH} {want:Option (List Int)} {out:List Int} {terms:List bV} {met:List Bs} {r:List aV} {x:aV} {s:ax} {y:aA}
theorem Au(l:List aV)(x:aB)(w:World)(hx:ak w (·<w.heap.size) (l.map aV.toD) x)(hl:l.length<=2000000)(hf:∀r∈l,gL r)(hg:GG w):
  Calls Tryz.prog 42 #[.slice x.a l.length x.cap] w fun e w'=>e=.returned (.tuple #[.int .i64 (j6 l).1,.int .i64 (j6 l).2])/\Below w.heap.size w w':=by
 have hmm:= @run_makeMap Tryz.prog;have MU:Hid (∀(j:Nat) (hj:j<l.length),∃y:kX,jf w (·<w.heap.size) l[j] y/\av w x.b (x.o+j*10) (y.cells l[j])):=Lh (fun j hj=>hx.Bp j hj);have vD:=Lh hx.at_;have Ee:=Lh (fun(j:Nat) (hj:j<l.length)=>hf _ (List.getElem_mem hj));have HG:=Lh hg;obtain⟨res,hres⟩:∃res,res=j6 l:=⟨_,rfl⟩;rw[<-hres];have Na:=Lh (show res=fA [] l 0 from hres);clear hx hf hg hres;go_enter Tryz.func42,Tryz.ntmps42;go_wp2_with fail;go_loopw [11] (fun i wr=>∃j:Nat,j<=l.length/\i=.int .i64 j/\Below w.heap.size w wr/\Hid (qO wr w.heap.size ((l.take j).map aV.name))/\Hid (res=fA ((l.take j).map aV.name) (l.drop j) j)) (fun i _=>l.length-(intOf i).toNat)
 case atStart=>exact⟨0,Nat.zero_le _,rfl,(Below.refl _ _).alloc (Nat.le_refl _) _,Lh (Dm w),Na⟩
 case round=>
  obtain⟨j,hj,rfl,hb,KJ,HE⟩:=hrel;by_cases hlt:j<l.length
  ·obtain⟨y,hy1,hy2⟩:=MU.out j hlt;obtain⟨hxa,l7⟩:=vD.out (by rw[List.length_map];omega);have hys:=hy2.agree (af hb) l7;have hbw:Below w.heap.size w (wr.alloc (.cells (y.cells l[j]).toArray 66)):=hb.alloc hb.size _;have iP:=Lh (DR l[j] y _ (hy1.later hbw hbw.size) (Ee.out j hlt) (HG.out.below hbw));have hdrop:l.drop j=l[j]::l.drop (j+1):=List.drop_eq_getElem_cons hlt;have htk:(l.take (j+1)).map aV.name=(l.take j).map aV.name++[l[j].name]:=by rw[List.take_succ_eq_append_getElem hlt,List.map_append];rfl
   have HDR:=Lh hdrop;have wY:=Lh htk;have zg:=Lh hbw;obtain⟨c,hc⟩:∃c,dG l[j]=c:=⟨_,rfl⟩;rw[hc] at iP;have JW:=Lh hc;rw[hxa];clear hy1 hy2 l7 hbw hdrop hc htk;generalize l[j]=re at iP zg HDR JW wY hys;obtain⟨name,hard,weight,each,⟨kind,fname,n,terms,binds,fl⟩⟩:=re;obtain⟨ye,yb⟩:=y;simp only[kX.cells,aA.cells,aB.val,ag.kind,ag.name,ag.n,ag.terms,ag.binds,ag.l] at iP zg wY hys;obtain⟨e0,e1,e2,e3,e4,e5,e6,e7,e8,e9⟩:=hys.ten;clear hys;generalize hmet:(l.take j).map aV.name=met at KJ HE wY;clear hmet;have hcd:(c≠0/\(c !=0)=true)∨(c=0/\(c !=0)=false):=by by_cases h:c=0<;>simp[h]
   rcases hcd with⟨d1,d2⟩|⟨d1,d2⟩
   ·have HD:=Lh (HE.out.trans (Dk HDR.out JW.out d1));clear d1;go_wp2_with fail;refine iP.out.mono ?_;rintro e w1 ⟨rfl,hb1⟩;have HB1:=Lh (zg.out.trans (hb1.mono zg.out.size));clear hb1;go_wp2_with fail;go_ret2;exact⟨by rw[HD.out];rfl,HB1.out⟩
   ·subst d1;clear d2;go_wp2_with fail;refine iP.out.mono ?_;rintro e w1 ⟨rfl,hb1⟩;have Be:=(gS KJ.out).1;have nX:qO w1 w.heap.size met:=(hb1.block w.heap.size (by simp;omega)).trans ((Below.heap_alloc _ _ _ Be).trans KJ.out);have q0:w1.cell? ⟨wr.heap.size,0,none⟩=some (.string ⟨name.toArray⟩):=cH (boxed (B:=wr.heap.size+1) (by simpa using hb1) (by omega)) rfl;have HB1:=Lh (zg.out.trans (hb1.mono zg.out.size));have hlk:=yM (P:=Tryz.prog) w1 120 _ _ w.heap.size met name Tryz.underlying120 Tryz.underlying9 Tryz.zeroValue4 nX;cases hcn:met.contains name
    ·have hput:=Bq (P:=Tryz.prog) w1 120 _ _ w.heap.size met name Tryz.underlying120 Tryz.underlying9 nX hcn;rw[hcn] at hlk;have HD:=Lh (HE.out.trans (Ad HDR.out JW.out hcn));have hl1:w.heap.size<w1.heap.size:=(gS nX).1;clear hb1 nX hcn Be;go_wp2_with fail;refine⟨⟨j+1,by omega,by go_num,?_,Lh ?_,Lh ?_⟩,by simp[intOf];omega⟩
     ·exact HB1.out.trans ((aa.Mod.putObj w1 w.heap.size _).below HB1.out.size (fun k hk=>by omega))
     ·rw[wY.out];show(World.putObj _ _ _).heap[_]?=_;rw[World.putObj_heap_same hl1];simp
     ·rw[wY.out];exact HD.out
    ·rw[hcn] at hlk;have HD:=Lh (HE.out.trans (yJ HDR.out JW.out hcn));clear hb1 nX hcn Be;go_wp2_with fail;go_ret2;exact⟨by rw[HD.out];rfl,HB1.out⟩
  ·have hjl:j=l.length:=by omega
   have HD:Hid (res=(0,0)):=Lh (by rw[HE.out,hjl,List.drop_length,fA]);clear hjl;go_wp2_with fail;go_ret2;exact⟨by rw[HD.out];rfl,hb⟩
def bL(W:World)(b:Nat)(s:ax)(x:bH):Prop:=W.heap[b]?=some (.cells (x.cells s).toArray 28 (0,0))
theorem bL.cells{x:bH}(h:bL W b s x):W.cell? ⟨b,0,none⟩=some (.slice x.slots.a s.slots.length x.slots.cap)/\W.cell? ⟨b,1,none⟩=some (.slice x.ah.a s.ah.length x.ah.cap)/\W.cell? ⟨b,2,none⟩=some (.slice x.people.a s.people.length x.people.cap)/\W.cell? ⟨b,3,none⟩=some (.slice x.groups.a s.groups.length x.groups.cap)/\W.cell? ⟨b,4,none⟩=some (.slice x.lessons.a s.lessons.length x.lessons.cap):=
 ⟨cH h rfl,cH h rfl,cH h rfl,cH h rfl,cH h rfl⟩
theorem bL.below{x:bH}(h:bL W b s x)(hb:Below W.heap.size W W'):bL W' b s x:=(hb.block _ (gS h).1).trans h
theorem bL.lt{x:bH}(h:bL W b s x):b<W.heap.size:=(gS h).1
end Go.Proofs.YtncnnbmeacpboaaGreatDoor
namespace Go.aa
open Go.RowKit
variable {w W W':World} {l:List ag} {b cap j B C lo sz H:Nat} {cs:List Value} {T e t:TypeId} {fz:Nat×Nat} {F:Nat->Prop} {xs:List D} {f:ag} {kind n:Int} {name:Bs} {a binds bs:List aH} {want:Option (List Int)} {out:List Int} {terms:List bV} {met:List Bs} {r:List aV} {x:aV} {s:ax} {y:aA}
def zU(l:List Nat):List Int:=l.map (fun(n:Nat)=>(n:Int))
@[simp] theorem Kn(a:List Nat):(zU a).length=a.length:=by simp[zU]
end Go.aa
namespace Go.aa
open Go.RowKit
variable {P:Program}
variable {w W W':World} {l:List ag} {b cap j B C lo sz H:Nat} {cs:List Value} {T e t:TypeId} {fz:Nat×Nat} {F:Nat->Prop} {xs:List D} {f:ag} {kind n:Int} {name:Bs} {a binds bs:List aH} {want:Option (List Int)} {out:List Int} {terms:List bV} {met:List Bs} {r:List aV} {x:aV} {s:ax} {y:aA}
def dK(w:World)(lo:Nat)(F:Nat->Prop)(e:TypeId)(sz:Nat)(v:Value)(xs:List D):Prop:=∃r,Own w F e sz v r xs/\∀k,r=some k->lo<=k
theorem dK.onto{v:Value}(h:dK w lo F e sz v xs):fu w lo F e sz v xs:=.inr h
theorem dK.nil(w:World)(lo:Nat)(F:Nat->Prop)(e:TypeId)(sz:Nat)(lt:∀k,F k->k<w.heap.size):dK w lo F e sz (.slice none 0 0) []:=⟨none,Own.nil _ _ _ _ lt,fun _ h=>by cases h⟩
theorem dK.below{w w':World}{lo:Nat}{F:Nat->Prop}{e:TypeId}{sz:Nat}{v:Value}{xs:List D}(h:dK w lo F e sz v xs)(hb:Below w.heap.size w w'):dK w' lo F e sz v xs:=by
 obtain⟨r,h1,h2⟩:=h;exact⟨r,h1.below hb,h2⟩
theorem dK.form{w:World}{lo:Nat}{F:Nat->Prop}{e:TypeId}{sz:Nat}{v:Value}{xs:List D}(h:dK w lo F e sz v xs):∃a cap,v=.slice a xs.length cap:=by
 obtain⟨r,h1,_⟩:=h;exact h1.form
theorem aL{W0:World}(hB:W0.heap.size=B){lo:Nat}{F:Nat->Prop}{ops:Array Oper}{rest:List Oper}{o:Oper}{a:Act}{Q:Exit->Act->World->Prop}(hgd:o.guard=none)(s x:Operand)(t:TypeId)(ho:o.op=.call { callee:=.builtin .append,args:=#[s,x],argTypes:=#[t,t]})(e:TypeId)(i:TypeInfo)(z:Value)(size bytes:Nat)(ht:P.underlying t=some (.slice e))(hi:P.info? e=some i)(hz:i.zero=some z)(hsize:i.size=size)(hby:i.bytes=bytes)(hzs:z.cells.size=size)(hsz:0<size)(v:Value)(xs:List D)(y:D)(cs:List Value)(T:TypeId)(hs:a.eval s=v)(hx:a.eval x=.slice (some ⟨B,0,none⟩) 1 1)(hv:dK W0 lo F e size v xs)(hd:au W0 F [y] cs)(hlo:lo<=W0.heap.size)(hw:y.width=size)(h63:xs.length+1<=maxLen)(hbytes:(xs.length+1)*bytes<=140737488355328)(h:∀ao cap w',dK w' lo F e size (.slice ao (xs.length+1) cap) (xs++[y])->Below lo W0 w'->wpList P ops Q rest (a.put o.dst (.slice ao (xs.length+1) cap)) w'):
  wpList P ops Q (o::rest) a (W0.alloc (.cells cs.toArray T)):=by
 obtain⟨r,h1,h2⟩:=hv;have hb:Below W0.heap.size W0 (W0.alloc (.cells cs.toArray T)):=(Below.refl _ _).alloc (Nat.le_refl _) _;have hnb:(W0.alloc (.cells cs.toArray T)).heap[W0.heap.size]?=some (.cells cs.toArray T (0,0)):=boxed (B:=W0.heap.size+1) (Below.refl _ _) (by omega);have hnews:∀j u,cs[j]?=some u->(W0.alloc (.cells cs.toArray T)).cell? ((⟨W0.heap.size,0,none⟩:Addr).add j)=some u:=fun j u hu=>by
  have hc:=cH (i:=j) hnb (v:=u) (by simpa using hu);unfold Addr.add;by_cases h0:j=0
  ·subst h0;simpa using hc
  ·rw[if_neg h0];simpa using hc
 have hlen:cs.length=1*size:=by
  have:=au.length _ _ hd;rw[this];simp[bz,hw]
 have hd':au (W0.alloc (.cells cs.toArray T)) F [y] cs:=au.agree ((af hb).mono h1.lt) _ _ hd;have h1':=h1.alloc (.cells cs.toArray T);obtain⟨cs0,k1,k2⟩:=h1'.cells;refine wpList_append_lies (W0.alloc (.cells cs.toArray T)) hgd s x t ho 0 e i z size bytes ht hi hz hsize hby hzs hsz v xs.length cs0 hs k1 ⟨W0.heap.size,0,none⟩ 1 1 cs (by rw[hx,hB]) hlen hnews (au.one _ _ hd) (by omega) h63 hbytes (Nat.zero_le _) _ rfl (fun g cap w' hown hgr hat hlt=>?_);obtain⟨g1,g2,g3⟩:=h1'.appended (ys:=[y]) k2 hown hgr (by rcases hat with h|h;exact .inl h.symm;exact .inr (by rw[h];rfl)) hd';have hm0:Mod (fun k=>r=some k) W0 w':=(Mod.of_below (S:=fun k=>r=some k) hb).trans g2 (fun _ _ h=>h);refine h _ _ _ ⟨_,g1,fun k hk=>?_⟩ (hm0.below hlo (fun k hk=>h2 k hk));rcases g3 with g3|g3
 ·rw[g3] at hk;exact h2 k hk
 ·rw[g3] at hk;simp at hk;omega
end Go.aa
namespace Go.Proofs.YtncnnbmeacpboaaGreatDoor
open Go.RowKit Go.aa
variable {w W W':World} {l:List ag} {b cap j B C lo sz H:Nat} {cs:List Value} {T e t:TypeId} {fz:Nat×Nat} {F:Nat->Prop} {xs:List D} {f:ag} {kind n:Int} {name:Bs} {a binds bs:List aH} {want:Option (List Int)} {out:List Int} {terms:List bV} {met:List Bs} {r:List aV} {x:aV} {s:ax} {y:aA}
theorem count_le(hsm:SchSmall s)(sort:Int):bS s sort<=2000000:=by
 have h1:=hsm.slots;have h2:=hsm.ah;have h3:=hsm.people;have h4:=hsm.groups;have h5:=hsm.lessons;rw[eD]
 repeat' split
 all_goals omega
def eQ(n:Bs):D:=.str ⟨n.toArray⟩
theorem jr:jd eQ 1:=⟨fun _=>rfl,fun _=>rfl⟩
theorem lG:(Tryz.prog.info? 9).map (fun i=>(i.zero,i.size,i.bytes))=some (some (.string ByteArray.empty),1,16):=by kernel_rfl
theorem lM{ns:List Bs}(hj:j<ns.length):(ns.take (j+1)).map eQ=(ns.take j).map eQ++[eQ ns[j]]:=by rw[List.take_succ_eq_append_getElem hj,List.map_append];rfl
theorem yI(s:ax)(x:bH)(sort:Int)(w:World)(h:¬(1<=sort/\sort<=7)):
  Calls Tryz.prog 40 #[.agg (x.cells s).toArray,.int .i64 sort] w fun e w'=>∃x0:aB,e=.returned (.slice x0.a 0 x0.cap)/\ak w' (·<w'.heap.size) [] x0/\Below w.heap.size w w':=by
 have k1:(sort==1)=false:=by simp;omega
 have k2:(sort==2)=false:=by simp;omega
 have k3:(sort==3)=false:=by simp;omega
 have k4:(sort==4)=false:=by simp;omega
 have k5:(sort==5)=false:=by simp;omega
 have k6:(sort==6)=false:=by simp;omega
 have k7:(sort==7)=false:=by simp;omega
 clear h;simp only[bH.cells,aB.val];go_enter Tryz.func40,Tryz.ntmps40;go_wp2_with fail;go_ret;exact⟨⟨none,0,0,0⟩,rfl,ak.nil (Nat.zero_le _) _ _ _,(Below.refl _ _).alloc (Nat.le_refl _) _⟩
theorem GA(s:ax)(x:bH)(w:World)(hs:ak w (·<w.heap.size) (s.lessons.map nH.toD) x.lessons)(hl:s.lessons.length<=2000000)(hN:∀(j:Nat) (hj:j<s.lessons.length),w.cell? ⟨x.lessons.b,x.lessons.o+j*3,none⟩=some (.string ⟨s.lessons[j].name.toArray⟩)/\s.lessons[j].name.length<=maxLen):
  Calls Tryz.prog 40 #[.agg (x.cells s).toArray,.int .i64 1] w fun e w'=>∃x0:aB,e=.returned (.slice x0.a (s.lessons.map nH.name).length x0.cap)/\ak w' (·<w'.heap.size) ((s.lessons.map nH.name).map eQ) x0/\Below w.heap.size w w':=by
 have vD:=Lh hs.at_;have HN:=Lh hN;have hbx:bL (w.alloc (.cells (x.cells s).toArray 28)) w.heap.size s x:=by unfold bL;rw[ae,if_pos rfl]
 have gJ:=Lh hbx;obtain⟨i0,hi,hz0,hz1,hz2⟩:=info_parts lG;obtain⟨ns,hns⟩:∃ns,ns=s.lessons.map nH.name:=⟨_,rfl⟩;have hln:ns.length=s.lessons.length:=by rw[hns,List.length_map]
 have lg:=Lh (aI hns (aI hln hl));rw[<-hns];clear hs hN hbx hns hln hl;simp only[bH.cells,aB.val] at gJ ⊢;go_enter Tryz.func40,Tryz.ntmps40;go_wp2_with fail;go_loopw [5,6] (fun v i wr=>∃j:Nat,j<=s.lessons.length/\i=.int .i64 j/\Below w.heap.size w wr/\Hid (bL wr w.heap.size s x)/\Hid (dK wr (w.heap.size+1) (fun _=>False) 9 1 v ((ns.take j).map eQ))) (fun _ i _=>s.lessons.length-(intOf i).toNat)
 case atStart=>exact⟨0,Nat.zero_le _,rfl,(Below.refl _ _).alloc (Nat.le_refl _) _,gJ,Lh (dK.nil _ _ _ _ _ (fun _ h=>h.elim))⟩
 case round=>
  obtain⟨j,hj,rfl,hb,gJ,HO⟩:=hrel;obtain⟨c0,c1,c2,c3,c4⟩:=gJ.out.cells;obtain⟨oa,fM,ho⟩:=HO.out.form;subst ho;have hlen:((ns.take j).map eQ).length=j:=by rw[List.length_map,List.length_take];have:=lg.out.2.1;omega
  rw[hlen] at HO ⊢;have jQ:=Lh hlen;clear hlen;by_cases hlt:j<s.lessons.length
  ·obtain⟨hxa,hbl⟩:=vD.out (by rw[List.length_map];omega);obtain⟨q0,q1⟩:=HN.out j hlt;have e0:=(hb.cell (p:=⟨x.lessons.b,x.lessons.o+j*3,none⟩) hbl).trans q0;have hjn:j<ns.length:=by have:=lg.out.2.1;omega
   have zi:ns[j]=s.lessons[j].name:=by have h:=lg.out.1;subst h;simp
   have HT:=Lh (lM hjn);rw[zi] at HT;have HF:=Lh (au.nS (w:=wr) (F:=fun _=>False) (x:=eQ s.lessons[j].name) rfl (by show(⟨(s.lessons[j].name).toArray⟩:ByteArray).size<=maxLen;rw[aS];exact q1));have HB1:=Lh hb;have hlm:=lg.out.2.2;rw[hxa] at c4;clear q0 q1 hjn zi hxa;generalize s.lessons[j].name=nm at HT HF e0;go_wp2_with (at_builtin;go_must (refine aL rfl rfl _ _ 47 rfl 9 i0 _ 1 16 Tryz.underlying47 hi hz0 hz1 hz2 rfl (by decide) (.slice oa j fM) ((ns.take j).map eQ) (eQ nm) [.string ⟨nm.toArray⟩] 9 rfl rfl HO.out HF.out (by have:=gJ.out.lt;omega) rfl (by rw[jQ.out];unfold maxLen;omega) (by rw[jQ.out];omega) ?_);intro ao cap w5 hon hb5;rw[jQ.out] at hon ⊢;have jS:=Lh (aI hon (aI (HB1.out.trans (hb5.mono (by omega))) (show bL w5 w.heap.size s x from(hb5.block _ (by omega)).trans gJ.out)));clear hon hb5);refine⟨⟨j+1,by omega,by go_num,jS.out.2.1,Lh jS.out.2.2,Lh ?_⟩,by simp[intOf];omega⟩;rw[HT.out];exact jS.out.1
  ·have HL:Hid (ns.take j=ns/\j=ns.length):=Lh ⟨List.take_of_length_le (by have:=lg.out.2.1;omega),by have:=lg.out.2.1;omega⟩;have HB1:=Lh hb;go_wp2_with fail;go_ret;have h:=HO.out;rw[HL.out.1] at h;obtain⟨x0,h0,h1⟩:=h.onto.sl (by rw[bC jr,List.length_map]);rw[List.length_map,<-HL.out.2] at h0;refine⟨x0,?_,h1,HB1.out⟩;show Ending.returned (.slice oa j fM)=_;rw[h0,aB.val,<-HL.out.2]
theorem GC(s:ax)(x:bH)(w:World)(hs:ak w (·<w.heap.size) (s.slots.map l6.toD) x.slots)(hl:s.slots.length<=2000000)(hN:∀(j:Nat) (hj:j<s.slots.length),w.cell? ⟨x.slots.b,x.slots.o+j*3,none⟩=some (.string ⟨s.slots[j].name.toArray⟩)/\s.slots[j].name.length<=maxLen):
  Calls Tryz.prog 40 #[.agg (x.cells s).toArray,.int .i64 2] w fun e w'=>∃x0:aB,e=.returned (.slice x0.a (s.slots.map l6.name).length x0.cap)/\ak w' (·<w'.heap.size) ((s.slots.map l6.name).map eQ) x0/\Below w.heap.size w w':=by
 have vD:=Lh hs.at_;have HN:=Lh hN;have hbx:bL (w.alloc (.cells (x.cells s).toArray 28)) w.heap.size s x:=by unfold bL;rw[ae,if_pos rfl]
 have gJ:=Lh hbx;obtain⟨i0,hi,hz0,hz1,hz2⟩:=info_parts lG;obtain⟨ns,hns⟩:∃ns,ns=s.slots.map l6.name:=⟨_,rfl⟩;have hln:ns.length=s.slots.length:=by rw[hns,List.length_map]
 have lg:=Lh (aI hns (aI hln hl));rw[<-hns];clear hs hN hbx hns hln hl;simp only[bH.cells,aB.val] at gJ ⊢;go_enter Tryz.func40,Tryz.ntmps40;go_wp2_with fail;go_loopw [5,7] (fun v i wr=>∃j:Nat,j<=s.slots.length/\i=.int .i64 j/\Below w.heap.size w wr/\Hid (bL wr w.heap.size s x)/\Hid (dK wr (w.heap.size+1) (fun _=>False) 9 1 v ((ns.take j).map eQ))) (fun _ i _=>s.slots.length-(intOf i).toNat)
 case atStart=>exact⟨0,Nat.zero_le _,rfl,(Below.refl _ _).alloc (Nat.le_refl _) _,gJ,Lh (dK.nil _ _ _ _ _ (fun _ h=>h.elim))⟩
 case round=>
  obtain⟨j,hj,rfl,hb,gJ,HO⟩:=hrel;obtain⟨c0,c1,c2,c3,c4⟩:=gJ.out.cells;obtain⟨oa,fM,ho⟩:=HO.out.form;subst ho;have hlen:((ns.take j).map eQ).length=j:=by rw[List.length_map,List.length_take];have:=lg.out.2.1;omega
  rw[hlen] at HO ⊢;have jQ:=Lh hlen;clear hlen;by_cases hlt:j<s.slots.length
  ·obtain⟨hxa,hbl⟩:=vD.out (by rw[List.length_map];omega);obtain⟨q0,q1⟩:=HN.out j hlt;have e0:=(hb.cell (p:=⟨x.slots.b,x.slots.o+j*3,none⟩) hbl).trans q0;have hjn:j<ns.length:=by have:=lg.out.2.1;omega
   have zi:ns[j]=s.slots[j].name:=by have h:=lg.out.1;subst h;simp
   have HT:=Lh (lM hjn);rw[zi] at HT;have HF:=Lh (au.nS (w:=wr) (F:=fun _=>False) (x:=eQ s.slots[j].name) rfl (by show(⟨(s.slots[j].name).toArray⟩:ByteArray).size<=maxLen;rw[aS];exact q1));have HB1:=Lh hb;have hlm:=lg.out.2.2;rw[hxa] at c0;clear q0 q1 hjn zi hxa;generalize s.slots[j].name=nm at HT HF e0;go_wp2_with (at_builtin;go_must (refine aL rfl rfl _ _ 47 rfl 9 i0 _ 1 16 Tryz.underlying47 hi hz0 hz1 hz2 rfl (by decide) (.slice oa j fM) ((ns.take j).map eQ) (eQ nm) [.string ⟨nm.toArray⟩] 9 rfl rfl HO.out HF.out (by have:=gJ.out.lt;omega) rfl (by rw[jQ.out];unfold maxLen;omega) (by rw[jQ.out];omega) ?_);intro ao cap w5 hon hb5;rw[jQ.out] at hon ⊢;have jS:=Lh (aI hon (aI (HB1.out.trans (hb5.mono (by omega))) (show bL w5 w.heap.size s x from(hb5.block _ (by omega)).trans gJ.out)));clear hon hb5);refine⟨⟨j+1,by omega,by go_num,jS.out.2.1,Lh jS.out.2.2,Lh ?_⟩,by simp[intOf];omega⟩;rw[HT.out];exact jS.out.1
  ·have HL:Hid (ns.take j=ns/\j=ns.length):=Lh ⟨List.take_of_length_le (by have:=lg.out.2.1;omega),by have:=lg.out.2.1;omega⟩;have HB1:=Lh hb;go_wp2_with fail;go_ret;have h:=HO.out;rw[HL.out.1] at h;obtain⟨x0,h0,h1⟩:=h.onto.sl (by rw[bC jr,List.length_map]);rw[List.length_map,<-HL.out.2] at h0;refine⟨x0,?_,h1,HB1.out⟩;show Ending.returned (.slice oa j fM)=_;rw[h0,aB.val,<-HL.out.2]
theorem GD(s:ax)(x:bH)(w:World)(hs:ak w (·<w.heap.size) (s.ah.map nE.toD) x.ah)(hl:s.ah.length<=2000000)(hN:∀(j:Nat) (hj:j<s.ah.length),w.cell? ⟨x.ah.b,x.ah.o+j*4,none⟩=some (.string ⟨s.ah[j].name.toArray⟩)/\s.ah[j].name.length<=maxLen):
  Calls Tryz.prog 40 #[.agg (x.cells s).toArray,.int .i64 3] w fun e w'=>∃x0:aB,e=.returned (.slice x0.a (s.ah.map nE.name).length x0.cap)/\ak w' (·<w'.heap.size) ((s.ah.map nE.name).map eQ) x0/\Below w.heap.size w w':=by
 have vD:=Lh hs.at_;have HN:=Lh hN;have hbx:bL (w.alloc (.cells (x.cells s).toArray 28)) w.heap.size s x:=by unfold bL;rw[ae,if_pos rfl]
 have gJ:=Lh hbx;obtain⟨i0,hi,hz0,hz1,hz2⟩:=info_parts lG;obtain⟨ns,hns⟩:∃ns,ns=s.ah.map nE.name:=⟨_,rfl⟩;have hln:ns.length=s.ah.length:=by rw[hns,List.length_map]
 have lg:=Lh (aI hns (aI hln hl));rw[<-hns];clear hs hN hbx hns hln hl;simp only[bH.cells,aB.val] at gJ ⊢;go_enter Tryz.func40,Tryz.ntmps40;go_wp2_with fail;go_loopw [5,8] (fun v i wr=>∃j:Nat,j<=s.ah.length/\i=.int .i64 j/\Below w.heap.size w wr/\Hid (bL wr w.heap.size s x)/\Hid (dK wr (w.heap.size+1) (fun _=>False) 9 1 v ((ns.take j).map eQ))) (fun _ i _=>s.ah.length-(intOf i).toNat)
 case atStart=>exact⟨0,Nat.zero_le _,rfl,(Below.refl _ _).alloc (Nat.le_refl _) _,gJ,Lh (dK.nil _ _ _ _ _ (fun _ h=>h.elim))⟩
 case round=>
  obtain⟨j,hj,rfl,hb,gJ,HO⟩:=hrel;obtain⟨c0,c1,c2,c3,c4⟩:=gJ.out.cells;obtain⟨oa,fM,ho⟩:=HO.out.form;subst ho;have hlen:((ns.take j).map eQ).length=j:=by rw[List.length_map,List.length_take];have:=lg.out.2.1;omega
  rw[hlen] at HO ⊢;have jQ:=Lh hlen;clear hlen;by_cases hlt:j<s.ah.length
  ·obtain⟨hxa,hbl⟩:=vD.out (by rw[List.length_map];omega);obtain⟨q0,q1⟩:=HN.out j hlt;have e0:=(hb.cell (p:=⟨x.ah.b,x.ah.o+j*4,none⟩) hbl).trans q0;have hjn:j<ns.length:=by have:=lg.out.2.1;omega
   have zi:ns[j]=s.ah[j].name:=by have h:=lg.out.1;subst h;simp
   have HT:=Lh (lM hjn);rw[zi] at HT;have HF:=Lh (au.nS (w:=wr) (F:=fun _=>False) (x:=eQ s.ah[j].name) rfl (by show(⟨(s.ah[j].name).toArray⟩:ByteArray).size<=maxLen;rw[aS];exact q1));have HB1:=Lh hb;have hlm:=lg.out.2.2;rw[hxa] at c1;clear q0 q1 hjn zi hxa;generalize s.ah[j].name=nm at HT HF e0;go_wp2_with (at_builtin;go_must (refine aL rfl rfl _ _ 47 rfl 9 i0 _ 1 16 Tryz.underlying47 hi hz0 hz1 hz2 rfl (by decide) (.slice oa j fM) ((ns.take j).map eQ) (eQ nm) [.string ⟨nm.toArray⟩] 9 rfl rfl HO.out HF.out (by have:=gJ.out.lt;omega) rfl (by rw[jQ.out];unfold maxLen;omega) (by rw[jQ.out];omega) ?_);intro ao cap w5 hon hb5;rw[jQ.out] at hon ⊢;have jS:=Lh (aI hon (aI (HB1.out.trans (hb5.mono (by omega))) (show bL w5 w.heap.size s x from(hb5.block _ (by omega)).trans gJ.out)));clear hon hb5);refine⟨⟨j+1,by omega,by go_num,jS.out.2.1,Lh jS.out.2.2,Lh ?_⟩,by simp[intOf];omega⟩;rw[HT.out];exact jS.out.1
  ·have HL:Hid (ns.take j=ns/\j=ns.length):=Lh ⟨List.take_of_length_le (by have:=lg.out.2.1;omega),by have:=lg.out.2.1;omega⟩;have HB1:=Lh hb;go_wp2_with fail;go_ret;have h:=HO.out;rw[HL.out.1] at h;obtain⟨x0,h0,h1⟩:=h.onto.sl (by rw[bC jr,List.length_map]);rw[List.length_map,<-HL.out.2] at h0;refine⟨x0,?_,h1,HB1.out⟩;show Ending.returned (.slice oa j fM)=_;rw[h0,aB.val,<-HL.out.2]
theorem GH(s:ax)(x:bH)(w:World)(hs:ak w (·<w.heap.size) (s.people.map pF.toD) x.people)(hl:s.people.length<=2000000)(hN:∀(j:Nat) (hj:j<s.people.length),w.cell? ⟨x.people.b,x.people.o+j*2,none⟩=some (.string ⟨s.people[j].name.toArray⟩)/\s.people[j].name.length<=maxLen):
  Calls Tryz.prog 40 #[.agg (x.cells s).toArray,.int .i64 4] w fun e w'=>∃x0:aB,e=.returned (.slice x0.a (s.people.map pF.name).length x0.cap)/\ak w' (·<w'.heap.size) ((s.people.map pF.name).map eQ) x0/\Below w.heap.size w w':=by
 have vD:=Lh hs.at_;have HN:=Lh hN;have hbx:bL (w.alloc (.cells (x.cells s).toArray 28)) w.heap.size s x:=by unfold bL;rw[ae,if_pos rfl]
 have gJ:=Lh hbx;obtain⟨i0,hi,hz0,hz1,hz2⟩:=info_parts lG;obtain⟨ns,hns⟩:∃ns,ns=s.people.map pF.name:=⟨_,rfl⟩;have hln:ns.length=s.people.length:=by rw[hns,List.length_map]
 have lg:=Lh (aI hns (aI hln hl));rw[<-hns];clear hs hN hbx hns hln hl;simp only[bH.cells,aB.val] at gJ ⊢;go_enter Tryz.func40,Tryz.ntmps40;go_wp2_with fail;go_loopw [5,9] (fun v i wr=>∃j:Nat,j<=s.people.length/\i=.int .i64 j/\Below w.heap.size w wr/\Hid (bL wr w.heap.size s x)/\Hid (dK wr (w.heap.size+1) (fun _=>False) 9 1 v ((ns.take j).map eQ))) (fun _ i _=>s.people.length-(intOf i).toNat)
 case atStart=>exact⟨0,Nat.zero_le _,rfl,(Below.refl _ _).alloc (Nat.le_refl _) _,gJ,Lh (dK.nil _ _ _ _ _ (fun _ h=>h.elim))⟩
 case round=>
  obtain⟨j,hj,rfl,hb,gJ,HO⟩:=hrel;obtain⟨c0,c1,c2,c3,c4⟩:=gJ.out.cells;obtain⟨oa,fM,ho⟩:=HO.out.form;subst ho;have hlen:((ns.take j).map eQ).length=j:=by rw[List.length_map,List.length_take];have:=lg.out.2.1;omega
  rw[hlen] at HO ⊢;have jQ:=Lh hlen;clear hlen;by_cases hlt:j<s.people.length
  ·obtain⟨hxa,hbl⟩:=vD.out (by rw[List.length_map];omega);obtain⟨q0,q1⟩:=HN.out j hlt;have e0:=(hb.cell (p:=⟨x.people.b,x.people.o+j*2,none⟩) hbl).trans q0;have hjn:j<ns.length:=by have:=lg.out.2.1;omega
   have zi:ns[j]=s.people[j].name:=by have h:=lg.out.1;subst h;simp
   have HT:=Lh (lM hjn);rw[zi] at HT;have HF:=Lh (au.nS (w:=wr) (F:=fun _=>False) (x:=eQ s.people[j].name) rfl (by show(⟨(s.people[j].name).toArray⟩:ByteArray).size<=maxLen;rw[aS];exact q1));have HB1:=Lh hb;have hlm:=lg.out.2.2;rw[hxa] at c2;clear q0 q1 hjn zi hxa;generalize s.people[j].name=nm at HT HF e0;go_wp2_with (at_builtin;go_must (refine aL rfl rfl _ _ 47 rfl 9 i0 _ 1 16 Tryz.underlying47 hi hz0 hz1 hz2 rfl (by decide) (.slice oa j fM) ((ns.take j).map eQ) (eQ nm) [.string ⟨nm.toArray⟩] 9 rfl rfl HO.out HF.out (by have:=gJ.out.lt;omega) rfl (by rw[jQ.out];unfold maxLen;omega) (by rw[jQ.out];omega) ?_);intro ao cap w5 hon hb5;rw[jQ.out] at hon ⊢;have jS:=Lh (aI hon (aI (HB1.out.trans (hb5.mono (by omega))) (show bL w5 w.heap.size s x from(hb5.block _ (by omega)).trans gJ.out)));clear hon hb5);refine⟨⟨j+1,by omega,by go_num,jS.out.2.1,Lh jS.out.2.2,Lh ?_⟩,by simp[intOf];omega⟩;rw[HT.out];exact jS.out.1
  ·have HL:Hid (ns.take j=ns/\j=ns.length):=Lh ⟨List.take_of_length_le (by have:=lg.out.2.1;omega),by have:=lg.out.2.1;omega⟩;have HB1:=Lh hb;go_wp2_with fail;go_ret;have h:=HO.out;rw[HL.out.1] at h;obtain⟨x0,h0,h1⟩:=h.onto.sl (by rw[bC jr,List.length_map]);rw[List.length_map,<-HL.out.2] at h0;refine⟨x0,?_,h1,HB1.out⟩;show Ending.returned (.slice oa j fM)=_;rw[h0,aB.val,<-HL.out.2]
theorem GI(s:ax)(x:bH)(w:World)(hs:ak w (·<w.heap.size) (s.groups.map oI.toD) x.groups)(hl:s.groups.length<=2000000)(hN:∀(j:Nat) (hj:j<s.groups.length),w.cell? ⟨x.groups.b,x.groups.o+j*2,none⟩=some (.string ⟨s.groups[j].name.toArray⟩)/\s.groups[j].name.length<=maxLen):
  Calls Tryz.prog 40 #[.agg (x.cells s).toArray,.int .i64 5] w fun e w'=>∃x0:aB,e=.returned (.slice x0.a (s.groups.map oI.name).length x0.cap)/\ak w' (·<w'.heap.size) ((s.groups.map oI.name).map eQ) x0/\Below w.heap.size w w':=by
 have vD:=Lh hs.at_;have HN:=Lh hN;have hbx:bL (w.alloc (.cells (x.cells s).toArray 28)) w.heap.size s x:=by unfold bL;rw[ae,if_pos rfl]
 have gJ:=Lh hbx;obtain⟨i0,hi,hz0,hz1,hz2⟩:=info_parts lG;obtain⟨ns,hns⟩:∃ns,ns=s.groups.map oI.name:=⟨_,rfl⟩;have hln:ns.length=s.groups.length:=by rw[hns,List.length_map]
 have lg:=Lh (aI hns (aI hln hl));rw[<-hns];clear hs hN hbx hns hln hl;simp only[bH.cells,aB.val] at gJ ⊢;go_enter Tryz.func40,Tryz.ntmps40;go_wp2_with fail;go_loopw [5,10] (fun v i wr=>∃j:Nat,j<=s.groups.length/\i=.int .i64 j/\Below w.heap.size w wr/\Hid (bL wr w.heap.size s x)/\Hid (dK wr (w.heap.size+1) (fun _=>False) 9 1 v ((ns.take j).map eQ))) (fun _ i _=>s.groups.length-(intOf i).toNat)
 case atStart=>exact⟨0,Nat.zero_le _,rfl,(Below.refl _ _).alloc (Nat.le_refl _) _,gJ,Lh (dK.nil _ _ _ _ _ (fun _ h=>h.elim))⟩
 case round=>
  obtain⟨j,hj,rfl,hb,gJ,HO⟩:=hrel;obtain⟨c0,c1,c2,c3,c4⟩:=gJ.out.cells;obtain⟨oa,fM,ho⟩:=HO.out.form;subst ho;have hlen:((ns.take j).map eQ).length=j:=by rw[List.length_map,List.length_take];have:=lg.out.2.1;omega
  rw[hlen] at HO ⊢;have jQ:=Lh hlen;clear hlen;by_cases hlt:j<s.groups.length
  ·obtain⟨hxa,hbl⟩:=vD.out (by rw[List.length_map];omega);obtain⟨q0,q1⟩:=HN.out j hlt;have e0:=(hb.cell (p:=⟨x.groups.b,x.groups.o+j*2,none⟩) hbl).trans q0;have hjn:j<ns.length:=by have:=lg.out.2.1;omega
   have zi:ns[j]=s.groups[j].name:=by have h:=lg.out.1;subst h;simp
   have HT:=Lh (lM hjn);rw[zi] at HT;have HF:=Lh (au.nS (w:=wr) (F:=fun _=>False) (x:=eQ s.groups[j].name) rfl (by show(⟨(s.groups[j].name).toArray⟩:ByteArray).size<=maxLen;rw[aS];exact q1));have HB1:=Lh hb;have hlm:=lg.out.2.2;rw[hxa] at c3;clear q0 q1 hjn zi hxa;generalize s.groups[j].name=nm at HT HF e0;go_wp2_with (at_builtin;go_must (refine aL rfl rfl _ _ 47 rfl 9 i0 _ 1 16 Tryz.underlying47 hi hz0 hz1 hz2 rfl (by decide) (.slice oa j fM) ((ns.take j).map eQ) (eQ nm) [.string ⟨nm.toArray⟩] 9 rfl rfl HO.out HF.out (by have:=gJ.out.lt;omega) rfl (by rw[jQ.out];unfold maxLen;omega) (by rw[jQ.out];omega) ?_);intro ao cap w5 hon hb5;rw[jQ.out] at hon ⊢;have jS:=Lh (aI hon (aI (HB1.out.trans (hb5.mono (by omega))) (show bL w5 w.heap.size s x from(hb5.block _ (by omega)).trans gJ.out)));clear hon hb5);refine⟨⟨j+1,by omega,by go_num,jS.out.2.1,Lh jS.out.2.2,Lh ?_⟩,by simp[intOf];omega⟩;rw[HT.out];exact jS.out.1
  ·have HL:Hid (ns.take j=ns/\j=ns.length):=Lh ⟨List.take_of_length_le (by have:=lg.out.2.1;omega),by have:=lg.out.2.1;omega⟩;have HB1:=Lh hb;go_wp2_with fail;go_ret;have h:=HO.out;rw[HL.out.1] at h;obtain⟨x0,h0,h1⟩:=h.onto.sl (by rw[bC jr,List.length_map]);rw[List.length_map,<-HL.out.2] at h0;refine⟨x0,?_,h1,HB1.out⟩;show Ending.returned (.slice oa j fM)=_;rw[h0,aB.val,<-HL.out.2]
theorem Ac(s:ax)(x:bH)(sort:Int)(w:World)(h:sort=6∨sort=7):
  Calls Tryz.prog 40 #[.agg (x.cells s).toArray,.int .i64 sort] w fun e w'=>∃x0:aB,e=.returned (.slice x0.a (aj s sort).length x0.cap)/\ak w' (·<w'.heap.size) ((aj s sort).map eQ) x0/\Below w.heap.size w w':=by
 have one:∀(W:World) (F:Nat->Prop) (l:List Bs),(∀n∈l,n.length<=maxLen)->au W F (l.map eQ) (l.map (fun n=>Value.string ⟨n.toArray⟩)):=fun W F l hl=>by
  induction l with
  |nil=>rw[List.map_nil,List.map_nil,au]
  |cons n r ih=>
   rw[List.map_cons,List.map_cons,au];exact⟨[_],_,rfl,by unfold eQ;rw[aM];exact⟨rfl,by rw[aS];exact hl n (by simp)⟩,ih (fun m hm=>hl m (by simp[hm]))⟩
 have ONE:=Lh one;clear one;simp only[bH.cells,aB.val];have e6:aj s 6=(List.range 7).map (fun i=>[100,97,121,UInt8.ofNat (48+i)]):=by unfold aj;rw[if_neg (by decide),if_neg (by decide),if_neg (by decide),if_neg (by decide),if_neg (by decide),if_pos rfl]
 have e7:aj s 7=(List.range 8).map (fun i=>[104,111,117,115,101,UInt8.ofNat (48+i)]):=by unfold aj;rw[if_neg (by decide),if_neg (by decide),if_neg (by decide),if_neg (by decide),if_neg (by decide),if_neg (by decide),if_pos rfl]
 have E6:=Lh e6;have E7:=Lh e7;clear e6 e7;rcases h with rfl|rfl
 ·go_enter Tryz.func40,Tryz.ntmps40;go_wp2_with fail;go_ret;have hb:Below w.heap.size w (w.alloc (.cells #[.slice x.slots.a s.slots.length x.slots.cap,.slice x.ah.a s.ah.length x.ah.cap,.slice x.people.a s.people.length x.people.cap,.slice x.groups.a s.groups.length x.groups.cap,.slice x.lessons.a s.lessons.length x.lessons.cap] 28)):=(Below.refl _ _).alloc (Nat.le_refl _) _;exact⟨⟨some ⟨w.heap.size+1,0,none⟩,w.heap.size+1,0,7⟩,rfl,ak.lit (cs:=(aj s 6).map (fun n=>Value.string ⟨n.toArray⟩)) (by rw[ae,if_pos (by simp)];rfl) (ONE.out _ _ _ (by rw[E6.out];decide)) (by simp) (by rw[E6.out];decide) (by decide),hb.alloc (by simp) _⟩
 ·go_enter Tryz.func40,Tryz.ntmps40;go_wp2_with fail;go_ret;have hb:Below w.heap.size w (w.alloc (.cells #[.slice x.slots.a s.slots.length x.slots.cap,.slice x.ah.a s.ah.length x.ah.cap,.slice x.people.a s.people.length x.people.cap,.slice x.groups.a s.groups.length x.groups.cap,.slice x.lessons.a s.lessons.length x.lessons.cap] 28)):=(Below.refl _ _).alloc (Nat.le_refl _) _;exact⟨⟨some ⟨w.heap.size+1,0,none⟩,w.heap.size+1,0,8⟩,rfl,ak.lit (cs:=(aj s 7).map (fun n=>Value.string ⟨n.toArray⟩)) (by rw[ae,if_pos (by simp)];rfl) (ONE.out _ _ _ (by rw[E7.out];decide)) (by simp) (by rw[E7.out];decide) (by decide),hb.alloc (by simp) _⟩
theorem Ab(s:ax)(x:bH)(sort:Int)(w:World)(hs:dh w (·<w.heap.size) s x)(hsm:SchSmall s):
  Calls Tryz.prog 40 #[.agg (x.cells s).toArray,.int .i64 sort] w fun e w'=>∃x0:aB,e=.returned (.slice x0.a (aj s sort).length x0.cap)/\ak w' (·<w'.heap.size) ((aj s sort).map eQ) x0/\Below w.heap.size w w':=by
 by_cases h1:sort=1
 ·subst h1;exact GA s x w hs.lessons hsm.lessons (fun j hj=>by
   obtain⟨_,_,_,_,h3,h4⟩:=hs.lessons.Pf j hj;exact⟨h4.three.1,h3⟩)
 by_cases h2:sort=2
 ·subst h2;exact GC s x w hs.slots hsm.slots (fun j hj=>by
   obtain⟨_,_,_,h4,h5⟩:=hs.slots.flat l6.bZ;have h6:=h5 _ (List.getElem_mem hj);refine⟨(av.three (h4 j hj)).1,?_⟩;have h7:=h6.1
   rwa [D.fine,aS] at h7)
 by_cases h3:sort=3
 ·subst h3;exact GD s x w hs.ah hsm.ah (fun j hj=>by
   obtain⟨_,_,_,_,h3,h4⟩:=hs.ah.Pk j hj;exact⟨h4.four.1,h3⟩)
 by_cases h4:sort=4
 ·subst h4;exact GH s x w hs.people hsm.people (fun j hj=>by
   obtain⟨_,_,h3,h4⟩:=hs.people.Pj j hj;exact⟨h4.two.1,h3⟩)
 by_cases h5:sort=5
 ·subst h5;exact GI s x w hs.groups hsm.groups (fun j hj=>by
   obtain⟨_,_,_,h4,h5⟩:=hs.groups.flat oI.bZ;have h6:=h5 _ (List.getElem_mem hj);refine⟨(av.two (h4 j hj)).1,?_⟩;have h7:=h6.1
   rwa [D.fine,aS] at h7)
 by_cases h6:sort=6∨sort=7
 ·exact Ac s x sort w h6
 have e:aj s sort=[]:=by unfold aj;rw[if_neg h1,if_neg h2,if_neg h3,if_neg h4,if_neg h5,if_neg (by omega),if_neg (by omega)]
 rw[e];exact yI s x sort w (by omega)
def iB(W:World)(b:Nat)(f:ag)(y:aA):Prop:=W.heap[b]?=some (.cells (y.cells f).toArray 64 (0,0))
theorem iB.below(h:iB W b f y)(hb:Below W.heap.size W W'):iB W' b f y:=(hb.block _ (gS h).1).trans h
theorem iB.lt(h:iB W b f y):b<W.heap.size:=(gS h).1
theorem iB.cells(h:iB W b f y):W.cell? ⟨b,0,none⟩=some (.int .i64 f.kind)/\W.cell? ⟨b,1,none⟩=some (.string ⟨f.name.toArray⟩)/\W.cell? ⟨b,2,none⟩=some (.int .i64 f.n)/\W.cell? ⟨b,3,none⟩=some (.slice y.t.a f.terms.length y.t.cap)/\W.cell? ⟨b,4,none⟩=some (.slice y.b.a f.binds.length y.b.cap)/\W.cell? ⟨b,5,none⟩=some (.slice y.l.a f.l.length y.l.cap):=
 ⟨cH h rfl,cH h rfl,cH h rfl,cH h rfl,cH h rfl,cH h rfl⟩
theorem Dh(m:Nat):∀(f:ag) (y:aA) (w:World),f.size<=m->f.size<=2000000->aJ w (·<w.heap.size) f y->
  Calls Tryz.prog 39 #[ja (f,y)] w fun e w'=>∃n:Int,e=.returned (.int .i64 n)/\Below w.heap.size w w':=by
 induction m with
 |zero=>intro f _ _ h;have:=f.size_pos;omega
 |succ m ih=>
  rintro⟨kind,name,n,terms,binds,fl⟩ y w hm hsz hy;rw[ag.size] at hm hsz;have hll:=dH fl;have dD:Below w.heap.size w (w.alloc (.cells (y.cells (.mk kind name n terms binds fl)).toArray 64)):=(Below.refl _ _).alloc (Nat.le_refl _) _;have hby:iB (w.alloc (.cells (y.cells (.mk kind name n terms binds fl)).toArray 64)) w.heap.size (.mk kind name n terms binds fl) y:=by unfold iB;rw[ae,if_pos rfl]
  have Ky:Hid (∀(j:Nat) (hj:j<fl.length),∃y1:aA,aJ w (·<w.heap.size) fl[j] y1/\av w y.l.b (y.l.o+j*6) (y1.cells fl[j])):=Lh (fun j hj=>hy.l.Cm j hj);have Ey:Hid (fF (·<w.heap.size) y.l.a y.l.b y.l.o fl.length):=Lh (by have:=hy.l.at_;rw[List.length_map] at this;exact this);have Kz:=Lh (fun(j:Nat) (hj:j<fl.length) (y1:aA) (W:World) (hW:Below w.heap.size w W) (h1:aJ w (·<w.heap.size) fl[j] y1)=>ih fl[j] y1 W (by have:=bQ fl j hj;omega) (by have:=bQ fl j hj;omega) (h1.later hW hW.size));have HB:=Lh (aI dD hby);clear ih hy dD hby;simp only[ja,aA.cells,aB.val,ag.kind,ag.name,ag.n,ag.terms,ag.binds,ag.l] at HB ⊢;go_enter Tryz.func39,Tryz.ntmps39;go_wp2_with fail;go_loopw [3,4] (fun nn i wr=>∃(j:Nat) (q:Int),j<=fl.length/\i=.int .i64 j/\nn=.int .i64 q/\Below w.heap.size w wr/\Hid (iB wr w.heap.size (.mk kind name n terms binds fl) y)) (fun _ i _=>fl.length-(intOf i).toNat)
  case atStart=>exact⟨0,1,Nat.zero_le _,rfl,rfl,HB.out.1,Lh HB.out.2⟩
  case round=>
   obtain⟨j,q,hj,rfl,rfl,hb,gJ⟩:=hrel;have HB0:=Lh hb;obtain⟨_,_,_,_,_,b5⟩:=gJ.out.cells;simp only[ag.l] at b5;by_cases hlt:j<fl.length
   ·obtain⟨y1,hy1,hy2⟩:=Ky.out j hlt;obtain⟨hxa,l7⟩:=Ey.out (by omega);have iP:=Lh (Kz.out j hlt y1 wr hb hy1);obtain⟨e0,e1,e2,e3,e4,e5⟩:=(hy2.agree (af hb) l7).six;rw[hxa] at b5;clear hy1 hy2 l7 hxa hb;generalize fl[j]=fe at iP e0 e1 e2 e3 e4 e5;obtain⟨rP,rU,n1,nz,mQ,KY⟩:=fe;simp only[ja,aA.cells,aB.val,ag.kind,ag.name,ag.n,ag.terms,ag.binds,ag.l] at iP e0 e1 e2 e3 e4 e5;go_wp2_with fail;refine iP.out.mono ?_;rintro e w1 ⟨q1,rfl,hb1⟩;have wO:=Lh (aI (HB0.out.trans (hb1.mono HB0.out.size)) (gJ.out.below hb1));clear hb1 e0 e1 e2 e3 e4 e5 b5;go_wp2_with fail;exact⟨⟨j+1,_,by omega,by go_num,rfl,wO.out.1,Lh wO.out.2⟩,by simp[intOf];omega⟩
   ·clear hb;go_wp2_with fail;go_ret;exact⟨q,rfl,HB0.out⟩
theorem Dc(m:Nat):∀(f:ag) (y:aA) (w:World),f.size<=m->f.size<=2000000->aJ w (·<w.heap.size) f y->
  Calls Tryz.prog 21 #[ja (f,y)] w fun e w'=>∃b:Bool,e=.returned (.bool b)/\Below w.heap.size w w':=by
 induction m with
 |zero=>intro f _ _ h;have:=f.size_pos;omega
 |succ m ih=>
  rintro⟨kind,name,n,terms,binds,fl⟩ y w hm hsz hy;have hss:=hsz;rw[ag.size] at hm hsz;have hll:=dH fl;have dD:Below w.heap.size w (w.alloc (.cells (y.cells (.mk kind name n terms binds fl)).toArray 64)):=(Below.refl _ _).alloc (Nat.le_refl _) _;have hby:iB (w.alloc (.cells (y.cells (.mk kind name n terms binds fl)).toArray 64)) w.heap.size (.mk kind name n terms binds fl) y:=by unfold iB;rw[ae,if_pos rfl]
  have Ky:Hid (∀(j:Nat) (hj:j<fl.length),∃y1:aA,aJ w (·<w.heap.size) fl[j] y1/\av w y.l.b (y.l.o+j*6) (y1.cells fl[j])):=Lh (fun j hj=>hy.l.Cm j hj);have Ey:Hid (fF (·<w.heap.size) y.l.a y.l.b y.l.o fl.length):=Lh (by have:=hy.l.at_;rw[List.length_map] at this;exact this);have vE:=Lh (Dh _ (.mk kind name n terms binds fl) y _ (Nat.le_refl _) hss (hy.later dD dD.size));have Kz:=Lh (fun(j:Nat) (hj:j<fl.length) (y1:aA) (W:World) (hW:Below w.heap.size w W) (h1:aJ w (·<w.heap.size) fl[j] y1)=>ih fl[j] y1 W (by have:=bQ fl j hj;omega) (by have:=bQ fl j hj;omega) (h1.later hW hW.size));have HB:=Lh (aI dD hby);obtain⟨b0,b1,b2,b3,b4,b5⟩:=hby.cells;have h1:(4<(fl.length:Int)/\4<fl.length)∨(decide (4<(fl.length:Int))=false):=by
   by_cases h:4<fl.length
   ·exact .inl ⟨by omega,h⟩
   ·exact .inr (decide_eq_false (by omega))
  have h2:(4<(terms.length:Int)/\4<terms.length)∨(decide (4<(terms.length:Int))=false):=by
   by_cases h:4<terms.length
   ·exact .inl ⟨by omega,h⟩
   ·exact .inr (decide_eq_false (by omega))
  have h3:(10<(binds.length:Int)/\10<binds.length)∨(decide (10<(binds.length:Int))=false):=by
   by_cases h:10<binds.length
   ·exact .inl ⟨by omega,h⟩
   ·exact .inr (decide_eq_false (by omega))
  have H1:=Lh h1;have H2:=Lh h2;have H3:=Lh h3;clear ih hy dD hby h1 h2 h3 hss;simp only[ja,aA.cells,aB.val,ag.kind,ag.name,ag.n,ag.terms,ag.binds,ag.l] at HB vE b0 b1 b2 b3 b4 b5 ⊢;go_enter Tryz.func21,Tryz.ntmps21;rcases H1.out with⟨p1,_⟩|p1
  ·go_wp2_with fail;go_ret;exact⟨false,rfl,HB.out.1⟩
  rcases H2.out with⟨p2,_⟩|p2
  ·go_wp2_with fail;go_ret;exact⟨false,rfl,HB.out.1⟩
  rcases H3.out with⟨p3,_⟩|p3
  ·go_wp2_with fail;go_ret;exact⟨false,rfl,HB.out.1⟩
  go_wp2_with fail;refine vE.out.mono ?_;rintro e w1 ⟨q1,rfl,hb1⟩;have wO:=Lh (aI (HB.out.1.trans (hb1.mono HB.out.1.size)) (HB.out.2.below hb1));clear hb1 b0 b1 b2 b3 b4 b5;by_cases hq:(300:Int)<q1
  ·go_wp2_with fail;go_ret;exact⟨false,rfl,wO.out.1⟩
  have hq':decide ((300:Int)<q1)=false:=decide_eq_false hq;clear hq;go_wp2_with fail;go_loopw [3] (fun i wr=>∃j:Nat,j<=fl.length/\i=.int .i64 j/\Below w.heap.size w wr/\Hid (iB wr w.heap.size (.mk kind name n terms binds fl) y)) (fun i _=>fl.length-(intOf i).toNat)
  case atStart=>exact⟨0,Nat.zero_le _,rfl,wO.out.1,Lh wO.out.2⟩
  case round=>
   obtain⟨j,hj,rfl,hb,gJ⟩:=hrel;have HB0:=Lh hb;obtain⟨_,_,_,_,_,b5⟩:=gJ.out.cells;simp only[ag.l] at b5;by_cases hlt:j<fl.length
   ·obtain⟨y1,hy1,hy2⟩:=Ky.out j hlt;obtain⟨hxa,l7⟩:=Ey.out (by omega);have iP:=Lh (Kz.out j hlt y1 wr hb hy1);obtain⟨e0,e1,e2,e3,e4,e5⟩:=(hy2.agree (af hb) l7).six;rw[hxa] at b5;clear hy1 hy2 l7 hxa hb;generalize fl[j]=fe at iP e0 e1 e2 e3 e4 e5;obtain⟨rP,rU,n1,nz,mQ,KY⟩:=fe;simp only[ja,aA.cells,aB.val,ag.kind,ag.name,ag.n,ag.terms,ag.binds,ag.l] at iP e0 e1 e2 e3 e4 e5;go_wp2_with fail;refine iP.out.mono ?_;rintro e w1 ⟨q1,rfl,hb1⟩;have wO:=Lh (aI (HB0.out.trans (hb1.mono HB0.out.size)) (gJ.out.below hb1));clear hb1 e0 e1 e2 e3 e4 e5 b5;cases q1
    ·go_wp2_with fail;go_ret;exact⟨false,rfl,wO.out.1⟩
    ·go_wp2_with fail;exact⟨⟨j+1,by omega,by go_num,wO.out.1,Lh wO.out.2⟩,by simp[intOf];omega⟩
   ·clear hb;go_wp2_with fail;go_ret;exact⟨true,rfl,HB0.out⟩
end Go.Proofs.YtncnnbmeacpboaaGreatDoor
namespace Go.aa
open Go.RowKit
variable {P:Program}
variable {w W W':World} {l:List ag} {b cap j B C lo sz H:Nat} {cs:List Value} {T e t:TypeId} {fz:Nat×Nat} {F:Nat->Prop} {xs:List D} {f:ag} {kind n:Int} {name:Bs} {a binds bs:List aH} {want:Option (List Int)} {out:List Int} {terms:List bV} {met:List Bs} {r:List aV} {x:aV} {s:ax} {y:aA}
def jv(W:World)(H:Nat)(t e:TypeId)(sz lo:Nat)(xs:List D)(T:Nat->Prop):Prop:=
 ∃(v:Value) (r:Option Nat),W.heap[H]?=some (.cells #[v] t (0,0))/\T H/\(∀k,r=some k->T k/\k≠H)/\(∀k,T k->lo<=k/\k<W.heap.size)/\aa.Own W (fun k=>T k/\k≠H/\r≠some k) e sz v r xs
theorem jv.kept{W W':World}{H:Nat}{t e:TypeId}{sz lo:Nat}{xs:List D}{T S:Nat->Prop}(h:jv W H t e sz lo xs T)(hm:Mod S W W')(hS:∀k,S k->¬T k):jv W' H t e sz lo xs T:=by
 obtain⟨v,r,h1,h2,h3,h4,h5⟩:=h;exact⟨v,r,ai h1 hm (fun h=>hS _ h h2),h2,h3,fun k hk=>⟨(h4 k hk).1,Nat.lt_of_lt_of_le (h4 k hk).2 hm.size⟩,h5.kept hm (fun k hk hk'=>hS k hk' hk.1) (fun k hk hk'=>hS k hk' (h3 k hk).1)⟩
theorem jv.take{T S:Nat->Prop}(h:jv W H t e sz lo xs T)(hS:∀k,S k->lo<=k/\k<W.heap.size/\¬T k):jv W H t e sz lo xs (fun k=>T k∨S k):=by
 obtain⟨v,r,h1,h2,h3,h4,h5⟩:=h;refine⟨v,r,h1,.inl h2,fun k hk=>⟨.inl (h3 k hk).1,(h3 k hk).2⟩,fun k hk=>?_,h5.widen (fun k hk=>⟨.inl hk.1,hk.2⟩) (fun k hk hk'=>hk'.2.2 hk) (fun k hk=>?_)⟩
 ·rcases hk with hk|hk
  ·exact h4 k hk
  ·exact⟨(hS k hk).1,(hS k hk).2.1⟩
 ·rcases hk.1 with hk|hk
  ·exact(h4 k hk).2
  ·exact(hS k hk).2.1
theorem jv.read{W:World}{H:Nat}{t e:TypeId}{sz lo:Nat}{xs:List D}{T:Nat->Prop}(h:jv W H t e sz lo xs T)(hw:bz xs=xs.length*sz):∃x:aB,W.heap[H]?=some (.cells #[x.val xs.length] t (0,0))/\ak W T xs x:=by
 obtain⟨v,r,h1,h2,h3,h4,h5⟩:=h;obtain⟨x,e,hx⟩:=aM.bB.1 (h5.read (G:=T) (fun k hk=>hk.1) (fun k hk=>(h3 k hk).1) hw);simp only[List.cons.injEq,and_true] at e;exact⟨x,by rw[h1,e],hx⟩
theorem jv.low{T:Nat->Prop}(h:jv W H t e sz lo xs T):∀k,T k->lo<=k/\k<W.heap.size:=by
 obtain⟨_,_,_,_,_,h4,_⟩:=h;exact h4
end Go.aa
