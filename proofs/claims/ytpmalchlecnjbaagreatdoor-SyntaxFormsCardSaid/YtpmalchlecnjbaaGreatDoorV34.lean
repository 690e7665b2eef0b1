/- Joined texts: FrmC, TypA, TypB, TypC, TypD, TypE, TypF, TypG, TypH, EvA, EvB, RefN, EvC, RefM, RefF. -/
import Derived.Test.YtpmalchlecnjbaaGreatDoorV32
import Derived.Test.YtpmalchlecnjbaaGreatDoorV22
import Derived.Test.YtpmalchlecnjbaaGreatDoorV13
import Derived.Test.YtpmalchlecnjbaaGreatDoorV33
import Derived.Deep.QuietTactic
import Derived.BigQuiet
import Derived.Test.YtpmalchlecnjbaaGreatDoorV10
import Derived.Deep.RegionWith
import Derived.Deep.RegionHeld3
set_option maxHeartbeats 2000000
set_option maxRecDepth 100000
set_option linter.unusedVariables false
set_option linter.unusedSimpArgs false
/- formula.Check. -/
namespace Go.Proofs.YtpmalchlecnjbaaGreatDoor
open Go.RowKit Go.Chalk
attribute [local go_sem] Oper.semAt_some
def FrmSm (f:Frm):Prop:=f.terms.length<=2000000/\f.binds.length<=2000000/\f.l.length<=2000000/\f.name.length<=4000000/\(∀ t∈f.terms,t.name.length<=4000000)/\(∀ b∈f.binds,b.name.length<=4000000)
structure FrmFit (f:Frm):Prop where
 size:f.size<=2000000
 nodes:∀ g∈nodesF f,FrmSm g
theorem CkEnd.leavesF {fn:Func} {R:Ending->World->Prop} {w W:World} {ds:List Nat} {c:Int} {tm:Array Value} (h:CkEnd w W ds c)
  (hres:∀ W',W'.cell? ⟨w.heap.size+1,0,none⟩=some (.int .i64 c)->(results fn tm).run Tryz.prog W'=.ok (.int .i64 c) W') (hR:∀ W',Below w.heap.size w W'->R (.returned (.int .i64 c)) W') :
  LeavesInM Fence.wide 0 Tryz.prog fn tm R (ds.map Chalk.mark) .returning W:=by
 refine leaves_marks_at (v:=.int .i64 c) ds W h.nodup (fun d hd=>(h.marks d hd).1) (fun W' hm'=>?_)
 have hx':W'.heap[w.heap.size+1]?=some (.cells #[.int .i64 c] 29 (0,0)):=heap_kept h.res hm' (fun hk=>by have:=(h.marks _ hk).2;omega)
 exact ⟨hres W' (cH hx' rfl),hR _ (h.below.trans (hm'.below h.below.size (fun k hk=>by have:=(h.marks _ hk).2;omega)))⟩

theorem all_take_succ {l:List Frm} {i:Nat} (hi:i<l.length):(l.take (i+1)).all formedF=((l.take i).all formedF&&formedF l[i]):=by
 rw [List.take_succ_eq_append_getElem hi,List.all_append];simp

theorem fcheck_any (f:Frm) (x:FrmA) (w:World) (hx:FrmIn w (·<w.heap.size) f x) (hf:FrmFit f) (hg:GG w) :
  Calls Tryz.prog 31 #[ndV (f,x)] w fun e w'=>e=.returned (.int .i64 (frmCheck f))/\Below w.heap.size w w':=by
 obtain ⟨ns,h1,h2,h3⟩:=fwalk_any f.size f x w _ (Nat.le_refl _) hf.size hx
 have hln:ns.length=(nodesF f).length:=by rw [<- h1,List.length_map]
 have hit:=fun W0 tb hag htb=>all_iter f x ns w _ h3 W0 tb hag htb
 have HIT:=Lh hit
 have HAL:=Lh (fun W=>all_any f x W)
 have HND:=Lh (fun (i:Nat) (hi:i<ns.length) (W:World) (hb:Below w.heap.size w W)=>(by
  have hi':i<(nodesF f).length:=by omega
  have e:(ndAt ns i).1=(nodesF f)[i]:=by
   unfold ndAt
   rw [List.getElem?_eq_getElem hi]
   simp only [<- h1,Option.getD_some,List.getElem_map]
  have hin:FrmIn w (·<w.heap.size) (ndAt ns i).1 (ndAt ns i).2:=by
   unfold ndAt
   rw [List.getElem?_eq_getElem hi]
   exact h2 _ (List.getElem_mem hi)
  refine ⟨hi',e,formed_any (ndAt ns i).1 (ndAt ns i).2 W (hin.later hb hb.size) (hg.below hb) ?_⟩
  rw [e];exact hf.nodes _ (List.getElem_mem hi'):∃ hi':i<(nodesF f).length,(ndAt ns i).1=(nodesF f)[i]/\Calls Tryz.prog 59 #[ndV (ndAt ns i)] W fun e w'=>e=.returned (.bool (formedF (ndAt ns i).1))/\Below W.heap.size W w'))
 have HSZ:=Lh (fun (W:World) (hb:Below w.heap.size w W)=>fsize_any f x W hf.size (hx.later hb hb.size))
 have HDP:=Lh (fun (W:World) (hb:Below w.heap.size w W)=>depth_any f.size f x W (Nat.le_refl _) hf.size (hx.later hb hb.size))
 have hcs:frmCheck f=if (nodesF f).all formedF=false then 1 else if 256<f.size∨24<f.depth then 2 else 0:=rfl
 have HCS:=Lh hcs
 have hfs:=hf.size
 have hfd:=Frm.depth_size f
 clear hit h1 h2 h3 hx hf hg hcs
 obtain ⟨kind,name,n,terms,binds,fl⟩:=f
 generalize hND:nodesF (.mk kind name n terms binds fl)=nds at *
 generalize Frm.size (.mk kind name n terms binds fl)=sz at *
 generalize Frm.depth (.mk kind name n terms binds fl)=dp at *
 generalize frmCheck (.mk kind name n terms binds fl)=fc at *
 clear hND
 simp only [ndV,FrmA.cells,SlA.val,Frm.kind,Frm.name,Frm.n,Frm.terms,Frm.binds,Frm.l] at HIT HAL HSZ HDP ⊢
 refine (callsIn_wide (n:=0)).1 (callsIn_of_wp_marks Tryz.func31 rfl trivial ?_)
 simp only [Tryz.ntmps31,List.size_toArray,List.length_cons,List.length_nil,Nat.reduceAdd,Nat.reduceSub,Array.replicate_succ,Array.replicate_zero,List.push_toArray,List.append_toArray,List.nil_append,List.cons_append]
 gi_wp2_with fail
 refine ⟨trivial,rfl,(callsIn_wide.2 (HAL.out _)).mono ?_⟩
 rintro e w' ⟨rfl,rfl⟩
 gi_wp2_with fail
 generalize hW3:(((w.alloc _).alloc _).alloc _)=W3
 have hsz:W3.heap.size=w.heap.size+3:=by rw [<- hW3];simp
 have hb3:Below w.heap.size w W3:=by rw [<- hW3];exact (((Below.refl _ _).alloc (Nat.le_refl _) _).alloc (by simp) _).alloc (by simp;omega) _
 have g0:W3.heap[w.heap.size]?=some (.cells #[.int .i64 kind,.string ⟨name.toArray⟩,.int .i64 n,.slice x.t.a terms.length x.t.cap,.slice x.b.a binds.length x.b.cap,.slice x.l.a fl.length x.l.cap] 28 (0,0)):=by rw [<- hW3];simp only [heap_get,World.size_alloc];repeat (first | rw [if_pos trivial] | rw [if_pos (by omega)] | rw [if_neg (by omega)])
 have g1:W3.heap[w.heap.size+1]?=some (.cells #[.int .i64 0] 29 (0,0)):=by rw [<- hW3];simp only [heap_get,World.size_alloc];repeat (first | rw [if_pos trivial] | rw [if_pos (by omega)] | rw [if_neg (by omega)])
 have g2:W3.heap[w.heap.size+1+1]?=some (.cells #[.int .i64 kind,.string ⟨name.toArray⟩,.int .i64 n,.slice x.t.a terms.length x.t.cap,.slice x.b.a binds.length x.b.cap,.slice x.l.a fl.length x.l.cap] 28 (0,0)):=by rw [<- hW3];simp only [heap_get,World.size_alloc];repeat (first | rw [if_pos trivial] | rw [if_pos (by omega)] | rw [if_neg (by omega)])
 have hit:=HIT.out W3 (w.heap.size+1+1) (agree_of_below hb3) g2
 have G:=Lh (aI hsz (aI hb3 (aI g0 g1)))
 have HI2:=Lh hit
 clear hW3 hsz hb3 g0 g1 g2 hit HIT HAL
 refine wp_range_fx (gf:=113) (lb:=#[.pointer (some ⟨w.heap.size+1+1,0,none⟩)]) rfl (enters_of Tryz.func113 (by kernel_rfl) rfl)
  HI2.out (fun _ _=>rfl) (fun k=>k=w.heap.size+1) (fun k hk=>by have:=G.out.1;omega) (fun k hk=>by have:=G.out.1;omega)
  (fun i W=>W.heap[w.heap.size+1]?=some (.cells #[.int .i64 0] 29 (0,0))/\(nds.take i).all formedF=true)
  (fun c i W=>c=.ret/\W.heap[w.heap.size+1]?=some (.cells #[.int .i64 1] 29 (0,0))/\nds.all formedF=false)
  ?hI ?hIx ⟨G.out.2.2.2,rfl⟩ (fun l i a' W=>∃ bx:Nat,bx ≠ l/\W.heap[bx]?=some (.cells ((ndAt ns i).2.cells (ndAt ns i).1).toArray 28 (0,0))/\a' = { tmps:=#[.agg #[.int .i64 kind,.string ⟨name.toArray⟩,.int .i64 n,.slice x.t.a terms.length x.t.cap,.slice x.b.a binds.length x.b.cap,.slice x.l.a fl.length x.l.cap],.pointer (some ⟨w.heap.size,0,none⟩),.pointer (some ⟨w.heap.size+1,0,none⟩),.pointer (some ⟨bx,0,none⟩),.agg #[.int .i64 kind,.string ⟨name.toArray⟩,.int .i64 n,.slice x.t.a terms.length x.t.cap,.slice x.b.a binds.length x.b.cap,.slice x.l.a fl.length x.l.cap],.func (.func 113) #[] #[.pointer (some ⟨w.heap.size+1+1,0,none⟩)],ndV (ndAt ns i),undef,undef,undef,undef,undef,undef,undef,undef,undef,undef,undef],defers:=[] }) ?hAx ?assign ?body ?done ?stop
 case hI=>exact (FixStab.box (T:=fun k=>k=w.heap.size+1) (B:=w.heap.size+1) (o:=fun _=>.cells #[.int .i64 0] 29 (0,0)) rfl).and FixStab.pure
 case hIx=>exact fun c i A B S h hm hS=>⟨h.1,heap_kept h.2.1 hm (fun hk=>(hS _ hk).2 rfl),h.2.2⟩
 case hAx=>exact fun l i a' A B ⟨bx,h1,h2,h3⟩ hm=>⟨bx,h1,heap_kept h2 hm h1,h3⟩
 case assign =>
  rintro l i W K hi hm hI hl hK
  have HK:=Lh hK
  have HI3:=Lh hI
  clear hK hI
  generalize ndAt ns i=nd at HK ⊢
  obtain ⟨⟨kind1,name1,n1,terms1,binds1,fl1⟩,y⟩:=nd
  simp only [ndV,FrmA.cells,SlA.val,Frm.kind,Frm.name,Frm.n,Frm.terms,Frm.binds,Frm.l] at HK ⊢
  gi_wp2_with fail
  refine HK.out _ _ ((Chalk.Mod.refl _ _).alloc _) ⟨((Below.refl W.heap.size W).alloc (Nat.le_refl _) _).block _ (gS HI3.out.1).1 |>.trans HI3.out.1,HI3.out.2⟩ ⟨W.heap.size,by omega,boxed (B:=W.heap.size+1) (Below.refl _ _) (by omega),rfl⟩
 case body =>
  rintro l i a' W hi hm ⟨hrb,hgo⟩ ⟨bx,hbl,hbx,rfl⟩ hT hwl hnl
  have hbW:Below w.heap.size w W:=G.out.2.1.trans (hm.below (by have:=G.out.1;omega) (fun k hk=>by omega))
  obtain ⟨hi',hnd,hcl⟩:=HND.out i hi W hbW
  have hgi:=all_take_succ hi'
  have hfa:formedF nds[i]=false->nds.all formedF=false:=fun h=>by
   rw [List.all_eq_false];exact ⟨nds[i],List.getElem_mem hi',by simp [h]⟩
  rw [<- hnd] at hgi hfa
  have HH:=Lh (aI hm (aI hrb (aI hgo (aI hgi hfa))))
  have HCL:=Lh hcl
  clear hm hrb hgo hcl hnd hbW hgi hfa
  generalize ndAt ns i=nd at HCL HH hbx ⊢
  generalize formedF nd.1=v at HCL HH
  obtain ⟨⟨kind1,name1,n1,terms1,binds1,fl1⟩,y⟩:=nd
  simp only [ndV,FrmA.cells,SlA.val,Frm.kind,Frm.name,Frm.n,Frm.terms,Frm.binds,Frm.l] at HCL hbx ⊢
  have b0:W.cell? ⟨bx,0,none⟩=some (.int .i64 kind1):=cH hbx rfl
  have b1:W.cell? ⟨bx,1,none⟩=some (.string ⟨name1.toArray⟩):=cH hbx rfl
  have b2:W.cell? ⟨bx,2,none⟩=some (.int .i64 n1):=cH hbx rfl
  have b3:W.cell? ⟨bx,3,none⟩=some (.slice y.t.a terms1.length y.t.cap):=cH hbx rfl
  have b4:W.cell? ⟨bx,4,none⟩=some (.slice y.b.a binds1.length y.b.cap):=cH hbx rfl
  have b5:W.cell? ⟨bx,5,none⟩=some (.slice y.l.a fl1.length y.l.cap):=cH hbx rfl
  clear hbx
  gi_wp2_with fail
  refine ⟨trivial,rfl,CallsIn.inRound l ((callsIn_wide.2 HCL.out).mono ?_)⟩
  rintro e w1 ⟨rfl,hb1⟩
  have hrb1:w1.heap[w.heap.size+1]?=some (.cells #[.int .i64 0] 29 (0,0)):=(hb1.block _ (gS HH.out.2.1).1).trans HH.out.2.1
  have e1:w1.frozen? ⟨w.heap.size+1,0,none⟩=false:=fH hrb1
  have e2:w1.cell? ⟨w.heap.size+1,0,none⟩=some (.int .i64 0):=cH hrb1 rfl
  have HI3:=Lh (aI hrb1 hb1)
  clear hrb1 hb1 b0 b1 b2 b3 b4 b5
  cases v
  ·gi_wp2_with fail
   refine ⟨(Chalk.Mod.of_below (S:=fun k=>k=w.heap.size+1) HI3.out.2).setCell (p:=⟨w.heap.size+1,0,none⟩) (fun _=>rfl) _,rfl,?_,HH.out.2.2.2.2 (by first | rfl | trivial)⟩
   rw [box_store _ HI3.out.1];rfl
  ·gi_wp2_with fail
   refine ⟨Chalk.Mod.of_below (S:=fun k=>k=w.heap.size+1) HI3.out.2,HI3.out.1,?_⟩
   rw [HH.out.2.2.2.1,HH.out.2.2.1];rfl
 case stop =>
  rintro D0 c i W hD0 hDlt hnD hi0 him hm ⟨rfl,hrb,hgo⟩ hdd
  have hbW:Below w.heap.size w W:=G.out.2.1.trans (hm.below (by have:=G.out.1;omega) (fun k hk=>by omega))
  have E:CkEnd w W [D0] 1:=⟨hbW,hrb,by simp,fun d hd=>by simp at hd;subst hd;exact ⟨hdd,by have:=G.out.1;omega⟩⟩
  have HE:=Lh E
  have HFC:Hid (fc=1):=Lh (by rw [HCS.out,if_pos hgo])
  clear E hbW hrb hdd hm hgo
  gi_wp2_with fail
  exact HE.out.leavesF (fun W' hc=>by simp [results,Tryz.results31,go_sem,hc]) (fun W' hb=>⟨by rw [HFC.out],hb⟩)
 case done =>
  rintro D0 W hD0 hDlt hnD hm ⟨hrb,hgo⟩ hdd
  have hbW:Below w.heap.size w W:=G.out.2.1.trans (hm.below (by have:=G.out.1;omega) (fun k hk=>by omega))
  have hfb:W.heap[w.heap.size]?=some (.cells #[.int .i64 kind,.string ⟨name.toArray⟩,.int .i64 n,.slice x.t.a terms.length x.t.cap,.slice x.b.a binds.length x.b.cap,.slice x.l.a fl.length x.l.cap] 28 (0,0)):=heap_kept G.out.2.2.1 hm (by omega)
  have E:CkEnd w W [D0] 0:=⟨hbW,hrb,by simp,fun d hd=>by simp at hd;subst hd;exact ⟨hdd,by have:=G.out.1;omega⟩⟩
  have hall:nds.all formedF=true:=by rw [hln,List.take_length] at hgo;exact hgo
  have HFC:Hid (fc=if 256<sz∨24<dp then 2 else 0):=Lh (by rw [HCS.out,hall];rfl)
  have HE:=Lh (aI E hfb)
  clear hrb hdd hm hgo hall E
  have b0:W.cell? ⟨w.heap.size,0,none⟩=some (.int .i64 kind):=cH hfb rfl
  have b1:W.cell? ⟨w.heap.size,1,none⟩=some (.string ⟨name.toArray⟩):=cH hfb rfl
  have b2:W.cell? ⟨w.heap.size,2,none⟩=some (.int .i64 n):=cH hfb rfl
  have b3:W.cell? ⟨w.heap.size,3,none⟩=some (.slice x.t.a terms.length x.t.cap):=cH hfb rfl
  have b4:W.cell? ⟨w.heap.size,4,none⟩=some (.slice x.b.a binds.length x.b.cap):=cH hfb rfl
  have b5:W.cell? ⟨w.heap.size,5,none⟩=some (.slice x.l.a fl.length x.l.cap):=cH hfb rfl
  clear hfb
  gi_wp2_with fail
  refine ⟨trivial,rfl,(callsIn_wide.2 (HSZ.out W hbW)).mono ?_⟩
  rintro e w1 ⟨rfl,hb1⟩
  have hE1:=HE.out.1.later hb1
  have hfb1:=(hb1.block _ (gS HE.out.2).1).trans HE.out.2
  have hr0:w1.cell? ⟨w.heap.size+1,0,none⟩=some (.int .i64 0):=cH hE1.res rfl
  have hr1:w1.frozen? ⟨w.heap.size+1,0,none⟩=false:=fH hE1.res
  have HE1:=Lh (aI hE1 (hbW.trans (hb1.mono hbW.size)))
  clear b0 b1 b2 b3 b4 b5 hE1 hb1 hbW
  by_cases hs:(256:Int)<(sz:Int)
  ·gi_wp2_with fail
   refine ⟨trivial,?_⟩
   gi_wp2_with fail
   exact (HE1.out.1.set 2).leavesF (fun W' hc=>by simp [results,Tryz.results31,go_sem,hc]) (fun W' hb=>⟨by rw [HFC.out,if_pos (.inl (by omega))],hb⟩)
  ·have hs':decide ((256:Int)<(sz:Int))=false:=by simpa using hs
   have b0:w1.cell? ⟨w.heap.size,0,none⟩=some (.int .i64 kind):=cH hfb1 rfl
   have b1:w1.cell? ⟨w.heap.size,1,none⟩=some (.string ⟨name.toArray⟩):=cH hfb1 rfl
   have b2:w1.cell? ⟨w.heap.size,2,none⟩=some (.int .i64 n):=cH hfb1 rfl
   have b3:w1.cell? ⟨w.heap.size,3,none⟩=some (.slice x.t.a terms.length x.t.cap):=cH hfb1 rfl
   have b4:w1.cell? ⟨w.heap.size,4,none⟩=some (.slice x.b.a binds.length x.b.cap):=cH hfb1 rfl
   have b5:w1.cell? ⟨w.heap.size,5,none⟩=some (.slice x.l.a fl.length x.l.cap):=cH hfb1 rfl
   have HDP1:=Lh (HDP.out w1 HE1.out.2)
   clear hfb1
   gi_wp2_with fail
   refine ⟨trivial,rfl,(callsIn_wide.2 HDP1.out).mono ?_⟩
   rintro e w2 ⟨rfl,hb2⟩
   have hE2:=HE1.out.1.later hb2
   have hr2:w2.cell? ⟨w.heap.size+1,0,none⟩=some (.int .i64 0):=cH hE2.res rfl
   have hr3:w2.frozen? ⟨w.heap.size+1,0,none⟩=false:=fH hE2.res
   have HE2:=Lh hE2
   clear b0 b1 b2 b3 b4 b5 hE2 hb2 hr0 hr1
   by_cases hd:(24:Int)<(dp:Int)
   ·gi_wp2_with fail
    exact (HE2.out.set 2).leavesF (fun W' hc=>by simp [results,Tryz.results31,go_sem,hc]) (fun W' hb=>⟨by rw [HFC.out,if_pos (.inr (by omega))],hb⟩)
   ·have hd':decide ((24:Int)<(dp:Int))=false:=by simpa using hd
    gi_wp2_with fail
    exact (HE2.out.set 0).leavesF (fun W' hc=>by simp [results,Tryz.results31,go_sem,hc]) (fun W' hb=>⟨by rw [HFC.out,if_neg (by omega)],hb⟩)
end Go.Proofs.YtpmalchlecnjbaaGreatDoor
/- types: find, formed, may, sort. -/
namespace Go.Chalk
open Go.RowKit
theorem cellsAt_of_heap {w:World} {b:Nat} {cs:List Value} {T:TypeId} {fz:Nat×Nat} (h:w.heap[b]?=some (.cells cs.toArray T fz)):CellsAt w b 0 cs:=fun j hj=>by
 rw [Nat.zero_add];exact cH h (by simp [hj])
theorem SlIn.lit {w:World} {F:Nat->Prop} {xs:List D} {cs:List Value} {b cap:Nat} {T:TypeId} {fz:Nat×Nat} (h:w.heap[b]?=some (.cells cs.toArray T fz)) (hd:DsAt w F xs cs) (hF:F b) (h1:xs.length<=cap) (h2:cap<=maxLen):SlIn w F xs ⟨some ⟨b,0,none⟩,b,0,cap⟩ :=
 ⟨fun _=>⟨rfl,hF⟩,h1,h2,RowAt.mk hd (cellsAt_of_heap h)⟩
theorem SlIn.nil {w:World} {F:Nat->Prop} {cap:Nat} (h2:cap<=maxLen) (a:Option Addr) (b o:Nat):SlIn w F [] ⟨a,b,o,cap⟩:=⟨fun h=>by simp at h,Nat.zero_le _,h2,by rw [RowAt];trivial⟩
end Go.Chalk
namespace Go.Proofs.YtpmalchlecnjbaaGreatDoor
open Go.RowKit Go.Chalk
end Go.Proofs.YtpmalchlecnjbaaGreatDoor
/- types: sorts. -/
namespace Go.Chalk
open Go.RowKit
end Go.Chalk
namespace Go.Proofs.YtpmalchlecnjbaaGreatDoor
open Go.RowKit Go.Chalk
end Go.Proofs.YtpmalchlecnjbaaGreatDoor
/- types: walk at comparisons and atoms. -/
namespace Go.Chalk
open Go.RowKit
end Go.Chalk
namespace Go.Proofs.YtpmalchlecnjbaaGreatDoor
open Go.RowKit Go.Chalk
end Go.Proofs.YtpmalchlecnjbaaGreatDoor
/- types: walk at comparisons. -/
namespace Go.Chalk
open Go.RowKit
end Go.Chalk
namespace Go.Proofs.YtpmalchlecnjbaaGreatDoor
open Go.RowKit Go.Chalk
end Go.Proofs.YtpmalchlecnjbaaGreatDoor
/- types: walk. -/
namespace Go.Chalk
open Go.RowKit
end Go.Chalk
namespace Go.Proofs.YtpmalchlecnjbaaGreatDoor
open Go.RowKit Go.Chalk
end Go.Proofs.YtpmalchlecnjbaaGreatDoor
/- types: Term, Form. -/
namespace Go.Chalk
open Go.RowKit
end Go.Chalk
namespace Go.Proofs.YtpmalchlecnjbaaGreatDoor
open Go.RowKit Go.Chalk
end Go.Proofs.YtpmalchlecnjbaaGreatDoor
/- types: Rule. -/
namespace Go.Chalk
open Go.RowKit
end Go.Chalk
namespace Go.Proofs.YtpmalchlecnjbaaGreatDoor
open Go.RowKit Go.Chalk
end Go.Proofs.YtpmalchlecnjbaaGreatDoor
/- types: Rules. -/
namespace Go.Chalk
open Go.RowKit
theorem CellsAt.ten {w:World} {b o:Nat} {c0 c1 c2 c3 c4 c5 c6 c7 c8 c9:Value} (h:CellsAt w b o [c0,c1,c2,c3,c4,c5,c6,c7,c8,c9]):w.cell? ⟨b,o,none⟩=some c0/\w.cell? ⟨b,o+1,none⟩=some c1/\w.cell? ⟨b,o+2,none⟩=some c2/\w.cell? ⟨b,o+3,none⟩=some c3/\w.cell? ⟨b,o+4,none⟩=some c4 /\
  w.cell? ⟨b,o+5,none⟩=some c5/\w.cell? ⟨b,o+6,none⟩=some c6/\w.cell? ⟨b,o+7,none⟩=some c7/\w.cell? ⟨b,o+8,none⟩=some c8/\w.cell? ⟨b,o+9,none⟩=some c9 :=
 ⟨by simpa using h 0 (by simp),by simpa using h 1 (by simp),by simpa using h 2 (by simp),by simpa using h 3 (by simp),by simpa using h 4 (by simp),by simpa using h 5 (by simp),by simpa using h 6 (by simp),by simpa using h 7 (by simp),by simpa using h 8 (by simp),by simpa using h 9 (by simp)⟩
end Go.Chalk
namespace Go.Proofs.YtpmalchlecnjbaaGreatDoor
open Go.RowKit Go.Chalk
end Go.Proofs.YtpmalchlecnjbaaGreatDoor
/- week.Check. -/
namespace Go.Proofs.YtpmalchlecnjbaaGreatDoor
open Go.RowKit Go.Chalk
end Go.Proofs.YtpmalchlecnjbaaGreatDoor
/- eval: binds, sizes, many. -/
namespace Go.Chalk
open Go.RowKit
def nats (l:List Nat):List Int:=l.map (fun (n:Nat)=>(n:Int))
@[simp] theorem nats_length (a:List Nat):(nats a).length=a.length:=by simp [nats]
variable {P:Program}
end Go.Chalk
namespace Go.Proofs.YtpmalchlecnjbaaGreatDoor
open Go.RowKit Go.Chalk
end Go.Proofs.YtpmalchlecnjbaaGreatDoor
/- The reference's Names and Count. -/
namespace Go.Proofs.YtpmalchlecnjbaaGreatDoor
open Go.RowKit Go.Chalk
end Go.Proofs.YtpmalchlecnjbaaGreatDoor
/- eval: many, broad. -/
namespace Go.Chalk
open Go.RowKit
end Go.Chalk
namespace Go.Proofs.YtpmalchlecnjbaaGreatDoor
open Go.RowKit Go.Chalk
end Go.Proofs.YtpmalchlecnjbaaGreatDoor
/- The reference's Count, Many and Broad: they answer a number that is not great. -/
namespace Go.Proofs.YtpmalchlecnjbaaGreatDoor
open Go.RowKit Go.Chalk
end Go.Proofs.YtpmalchlecnjbaaGreatDoor
/- The reference's Size and Few of a formula: they answer. -/
namespace Go.Proofs.YtpmalchlecnjbaaGreatDoor
open Go.RowKit Go.Chalk
def FrmBox (W:World) (b:Nat) (f:Frm) (y:FrmA):Prop:=W.heap[b]?=some (.cells (y.cells f).toArray 28 (0,0))
theorem FrmBox.below {W W':World} {b:Nat} {f:Frm} {y:FrmA} (h:FrmBox W b f y) (hb:Below W.heap.size W W'):FrmBox W' b f y:=(hb.block _ (gS h).1).trans h
theorem FrmBox.cells {W:World} {b:Nat} {f:Frm} {y:FrmA} (h:FrmBox W b f y):W.cell? ⟨b,0,none⟩=some (.int .i64 f.kind)/\W.cell? ⟨b,1,none⟩=some (.string ⟨f.name.toArray⟩)/\W.cell? ⟨b,2,none⟩=some (.int .i64 f.n)/\W.cell? ⟨b,3,none⟩=some (.slice y.t.a f.terms.length y.t.cap)/\W.cell? ⟨b,4,none⟩=some (.slice y.b.a f.binds.length y.b.cap)/\W.cell? ⟨b,5,none⟩=some (.slice y.l.a f.l.length y.l.cap) :=
 ⟨cH h rfl,cH h rfl,cH h rfl,cH h rfl,cH h rfl,cH h rfl⟩

end Go.Proofs.YtpmalchlecnjbaaGreatDoor
