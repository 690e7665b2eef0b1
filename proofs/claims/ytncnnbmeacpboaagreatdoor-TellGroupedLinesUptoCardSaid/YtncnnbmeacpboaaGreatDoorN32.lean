/- Joined texts: FrmC, TypA, TypB, TypC, TypD, TypE, TypF, TypG, TypH, EvA, EvB, RefN, EvC, RefM, RefF, Box, EvD. -/
import Derived.Test.YtncnnbmeacpboaaGreatDoorN31
import Derived.Test.YtncnnbmeacpboaaGreatDoorN21
import Derived.Test.YtncnnbmeacpboaaGreatDoorN12
import Derived.Test.YtncnnbmeacpboaaGreatDoorN30
import Derived.Deep.QuietTactic
import Derived.BigQuiet
import Derived.Test.YtncnnbmeacpboaaGreatDoorN09
import Derived.Deep.RegionWith
import Derived.Deep.RegionHeld3
set_option maxHeartbeats 2000000
set_option maxRecDepth 100000
set_option linter.unusedVariables false
set_option linter.unusedSimpArgs false
/- formula.Check. -/
namespace Go.Proofs.YtncnnbmeacpboaaGreatDoor
open Go.RowKit Go.Chalk
attribute [local go_sem] Oper.semAt_some
def FrmSm (f:Frm):Prop:=f.terms.length<=2000000/\f.binds.length<=2000000/\f.l.length<=2000000/\f.name.length<=4000000/\(∀ t∈f.terms,t.name.length<=4000000)/\(∀ b∈f.binds,b.name.length<=4000000)
structure FrmFit (f:Frm):Prop where
 size:f.size<=2000000
 nodes:∀ g∈nodesF f,FrmSm g
theorem CkEnd.leavesF {fn:Func} {R:Ending->World->Prop} {w W:World} {ds:List Nat} {c:Int} {tm:Array Value} (h:CkEnd w W ds c)
  (hres:∀ W',W'.cell? ⟨w.heap.size+1,0,none⟩=some (.int .i64 c)->(results fn tm).run Tryz.prog W'=.ok (.int .i64 c) W') (hR:∀ W',Below w.heap.size w W'->R (.returned (.int .i64 c)) W') :
  LeavesInM Fence.wide 0 Tryz.prog fn tm R (ds.map Chalk.mark) .returning W:=by
 refine leaves_marks_at (v:=.int .i64 c) ds W h.nodup (fun d hd=>(h.marks d hd).1) (fun W' hm'=>?_)
 have hx':W'.heap[w.heap.size+1]?=some (.cells #[.int .i64 c] 39 (0,0)):=heap_kept h.res hm' (fun hk=>by have:=(h.marks _ hk).2;omega)
 exact ⟨hres W' (cH hx' rfl),hR _ (h.below.trans (hm'.below h.below.size (fun k hk=>by have:=(h.marks _ hk).2;omega)))⟩

theorem all_take_succ {l:List Frm} {i:Nat} (hi:i<l.length):(l.take (i+1)).all formedF=((l.take i).all formedF&&formedF l[i]):=by
 rw [List.take_succ_eq_append_getElem hi,List.all_append];simp

theorem fcheck_any (f:Frm) (x:FrmA) (w:World) (hx:FrmIn w (·<w.heap.size) f x) (hf:FrmFit f) (hg:GG w) :
  Calls Tryz.prog 74 #[ndV (f,x)] w fun e w'=>e=.returned (.int .i64 (frmCheck f))/\Below w.heap.size w w':=by
 obtain ⟨ns,h1,h2,h3⟩:=fwalk_any f.size f x w _ (Nat.le_refl _) hf.size hx
 have hln:ns.length=(nodesF f).length:=by rw [<- h1,List.length_map]
 have hit:=fun W0 tb hag htb=>all_iter f x ns w _ h3 W0 tb hag htb
 have HIT:=Lh hit
 have HAL:=Lh (fun W=>all_any f x W)
 have HND:=Lh (fun (i:Nat) (hi:i<ns.length) (W:World) (hb:Below w.heap.size w W)=>(by
  have hi':i<(nodesF f).length:=by omega
  have e:(ndAt ns i).1=(nodesF f)[i]:=by
   unfold ndAt
   rw [List.getElem?_eq_getElem hi]
   simp only [<- h1,Option.getD_some,List.getElem_map]
  have hin:FrmIn w (·<w.heap.size) (ndAt ns i).1 (ndAt ns i).2:=by
   unfold ndAt
   rw [List.getElem?_eq_getElem hi]
   exact h2 _ (List.getElem_mem hi)
  refine ⟨hi',e,formed_any (ndAt ns i).1 (ndAt ns i).2 W (hin.later hb hb.size) (hg.below hb) ?_⟩
  rw [e];exact hf.nodes _ (List.getElem_mem hi'):∃ hi':i<(nodesF f).length,(ndAt ns i).1=(nodesF f)[i]/\Calls Tryz.prog 117 #[ndV (ndAt ns i)] W fun e w'=>e=.returned (.bool (formedF (ndAt ns i).1))/\Below W.heap.size W w'))
 have HSZ:=Lh (fun (W:World) (hb:Below w.heap.size w W)=>fsize_any f x W hf.size (hx.later hb hb.size))
 have HDP:=Lh (fun (W:World) (hb:Below w.heap.size w W)=>depth_any f.size f x W (Nat.le_refl _) hf.size (hx.later hb hb.size))
 have hcs:frmCheck f=if (nodesF f).all formedF=false then 1 else if 256<f.size∨24<f.depth then 2 else 0:=rfl
 have HCS:=Lh hcs
 have hfs:=hf.size
 have hfd:=Frm.depth_size f
 clear hit h1 h2 h3 hx hf hg hcs
 obtain ⟨kind,name,n,terms,binds,fl⟩:=f
 generalize hND:nodesF (.mk kind name n terms binds fl)=nds at *
 generalize Frm.size (.mk kind name n terms binds fl)=sz at *
 generalize Frm.depth (.mk kind name n terms binds fl)=dp at *
 generalize frmCheck (.mk kind name n terms binds fl)=fc at *
 clear hND
 simp only [ndV,FrmA.cells,SlA.val,Frm.kind,Frm.name,Frm.n,Frm.terms,Frm.binds,Frm.l] at HIT HAL HSZ HDP ⊢
 refine (callsIn_wide (n:=0)).1 (callsIn_of_wp_marks Tryz.func74 rfl trivial ?_)
 simp only [Tryz.ntmps74,List.size_toArray,List.length_cons,List.length_nil,Nat.reduceAdd,Nat.reduceSub,Array.replicate_succ,Array.replicate_zero,List.push_toArray,List.append_toArray,List.nil_append,List.cons_append]
 gi_wp2_with fail
 refine ⟨trivial,rfl,(callsIn_wide.2 (HAL.out _)).mono ?_⟩
 rintro e w' ⟨rfl,rfl⟩
 gi_wp2_with fail
 generalize hW3:(((w.alloc _).alloc _).alloc _)=W3
 have hsz:W3.heap.size=w.heap.size+3:=by rw [<- hW3];simp
 have hb3:Below w.heap.size w W3:=by rw [<- hW3];exact (((Below.refl _ _).alloc (Nat.le_refl _) _).alloc (by simp) _).alloc (by simp;omega) _
 have g0:W3.heap[w.heap.size]?=some (.cells #[.int .i64 kind,.string ⟨name.toArray⟩,.int .i64 n,.slice x.t.a terms.length x.t.cap,.slice x.b.a binds.length x.b.cap,.slice x.l.a fl.length x.l.cap] 64 (0,0)):=by rw [<- hW3];simp only [heap_get,World.size_alloc];repeat (first | rw [if_pos trivial] | rw [if_pos (by omega)] | rw [if_neg (by omega)])
 have g1:W3.heap[w.heap.size+1]?=some (.cells #[.int .i64 0] 39 (0,0)):=by rw [<- hW3];simp only [heap_get,World.size_alloc];repeat (first | rw [if_pos trivial] | rw [if_pos (by omega)] | rw [if_neg (by omega)])
 have g2:W3.heap[w.heap.size+1+1]?=some (.cells #[.int .i64 kind,.string ⟨name.toArray⟩,.int .i64 n,.slice x.t.a terms.length x.t.cap,.slice x.b.a binds.length x.b.cap,.slice x.l.a fl.length x.l.cap] 64 (0,0)):=by rw [<- hW3];simp only [heap_get,World.size_alloc];repeat (first | rw [if_pos trivial] | rw [if_pos (by omega)] | rw [if_neg (by omega)])
 have hit:=HIT.out W3 (w.heap.size+1+1) (agree_of_below hb3) g2
 have G:=Lh (aI hsz (aI hb3 (aI g0 g1)))
 have HI2:=Lh hit
 clear hW3 hsz hb3 g0 g1 g2 hit HIT HAL
 refine wp_range_fx (gf:=154) (lb:=#[.pointer (some ⟨w.heap.size+1+1,0,none⟩)]) rfl (enters_of Tryz.func154 (by kernel_rfl) rfl)
  HI2.out (fun _ _=>rfl) (fun k=>k=w.heap.size+1) (fun k hk=>by have:=G.out.1;omega) (fun k hk=>by have:=G.out.1;omega)
  (fun i W=>W.heap[w.heap.size+1]?=some (.cells #[.int .i64 0] 39 (0,0))/\(nds.take i).all formedF=true)
  (fun c i W=>c=.ret/\W.heap[w.heap.size+1]?=some (.cells #[.int .i64 1] 39 (0,0))/\nds.all formedF=false)
  ?hI ?hIx ⟨G.out.2.2.2,rfl⟩ (fun l i a' W=>∃ bx:Nat,bx ≠ l/\W.heap[bx]?=some (.cells ((ndAt ns i).2.cells (ndAt ns i).1).toArray 64 (0,0))/\a' = { tmps:=#[.agg #[.int .i64 kind,.string ⟨name.toArray⟩,.int .i64 n,.slice x.t.a terms.length x.t.cap,.slice x.b.a binds.length x.b.cap,.slice x.l.a fl.length x.l.cap],.pointer (some ⟨w.heap.size,0,none⟩),.pointer (some ⟨w.heap.size+1,0,none⟩),.pointer (some ⟨bx,0,none⟩),.agg #[.int .i64 kind,.string ⟨name.toArray⟩,.int .i64 n,.slice x.t.a terms.length x.t.cap,.slice x.b.a binds.length x.b.cap,.slice x.l.a fl.length x.l.cap],.func (.func 154) #[] #[.pointer (some ⟨w.heap.size+1+1,0,none⟩)],ndV (ndAt ns i),undef,undef,undef,undef,undef,undef,undef,undef,undef,undef,undef],defers:=[] }) ?hAx ?assign ?body ?done ?stop
 case hI=>exact (FixStab.box (T:=fun k=>k=w.heap.size+1) (B:=w.heap.size+1) (o:=fun _=>.cells #[.int .i64 0] 39 (0,0)) rfl).and FixStab.pure
 case hIx=>exact fun c i A B S h hm hS=>⟨h.1,heap_kept h.2.1 hm (fun hk=>(hS _ hk).2 rfl),h.2.2⟩
 case hAx=>exact fun l i a' A B ⟨bx,h1,h2,h3⟩ hm=>⟨bx,h1,heap_kept h2 hm h1,h3⟩
 case assign =>
  rintro l i W K hi hm hI hl hK
  have HK:=Lh hK
  have HI3:=Lh hI
  clear hK hI
  generalize ndAt ns i=nd at HK ⊢
  obtain ⟨⟨kind1,name1,n1,terms1,binds1,fl1⟩,y⟩:=nd
  simp only [ndV,FrmA.cells,SlA.val,Frm.kind,Frm.name,Frm.n,Frm.terms,Frm.binds,Frm.l] at HK ⊢
  gi_wp2_with fail
  refine HK.out _ _ ((Chalk.Mod.refl _ _).alloc _) ⟨((Below.refl W.heap.size W).alloc (Nat.le_refl _) _).block _ (gS HI3.out.1).1 |>.trans HI3.out.1,HI3.out.2⟩ ⟨W.heap.size,by omega,boxed (B:=W.heap.size+1) (Below.refl _ _) (by omega),rfl⟩
 case body =>
  rintro l i a' W hi hm ⟨hrb,hgo⟩ ⟨bx,hbl,hbx,rfl⟩ hT hwl hnl
  have hbW:Below w.heap.size w W:=G.out.2.1.trans (hm.below (by have:=G.out.1;omega) (fun k hk=>by omega))
  obtain ⟨hi',hnd,hcl⟩:=HND.out i hi W hbW
  have hgi:=all_take_succ hi'
  have hfa:formedF nds[i]=false->nds.all formedF=false:=fun h=>by
   rw [List.all_eq_false];exact ⟨nds[i],List.getElem_mem hi',by simp [h]⟩
  rw [<- hnd] at hgi hfa
  have HH:=Lh (aI hm (aI hrb (aI hgo (aI hgi hfa))))
  have HCL:=Lh hcl
  clear hm hrb hgo hcl hnd hbW hgi hfa
  generalize ndAt ns i=nd at HCL HH hbx ⊢
  generalize formedF nd.1=v at HCL HH
  obtain ⟨⟨kind1,name1,n1,terms1,binds1,fl1⟩,y⟩:=nd
  simp only [ndV,FrmA.cells,SlA.val,Frm.kind,Frm.name,Frm.n,Frm.terms,Frm.binds,Frm.l] at HCL hbx ⊢
  have b0:W.cell? ⟨bx,0,none⟩=some (.int .i64 kind1):=cH hbx rfl
  have b1:W.cell? ⟨bx,1,none⟩=some (.string ⟨name1.toArray⟩):=cH hbx rfl
  have b2:W.cell? ⟨bx,2,none⟩=some (.int .i64 n1):=cH hbx rfl
  have b3:W.cell? ⟨bx,3,none⟩=some (.slice y.t.a terms1.length y.t.cap):=cH hbx rfl
  have b4:W.cell? ⟨bx,4,none⟩=some (.slice y.b.a binds1.length y.b.cap):=cH hbx rfl
  have b5:W.cell? ⟨bx,5,none⟩=some (.slice y.l.a fl1.length y.l.cap):=cH hbx rfl
  clear hbx
  gi_wp2_with fail
  refine ⟨trivial,rfl,CallsIn.inRound l ((callsIn_wide.2 HCL.out).mono ?_)⟩
  rintro e w1 ⟨rfl,hb1⟩
  have hrb1:w1.heap[w.heap.size+1]?=some (.cells #[.int .i64 0] 39 (0,0)):=(hb1.block _ (gS HH.out.2.1).1).trans HH.out.2.1
  have e1:w1.frozen? ⟨w.heap.size+1,0,none⟩=false:=fH hrb1
  have e2:w1.cell? ⟨w.heap.size+1,0,none⟩=some (.int .i64 0):=cH hrb1 rfl
  have HI3:=Lh (aI hrb1 hb1)
  clear hrb1 hb1 b0 b1 b2 b3 b4 b5
  cases v
  ·gi_wp2_with fail
   refine ⟨(Chalk.Mod.of_below (S:=fun k=>k=w.heap.size+1) HI3.out.2).setCell (p:=⟨w.heap.size+1,0,none⟩) (fun _=>rfl) _,rfl,?_,HH.out.2.2.2.2 (by first | rfl | trivial)⟩
   rw [box_store _ HI3.out.1];rfl
  ·gi_wp2_with fail
   refine ⟨Chalk.Mod.of_below (S:=fun k=>k=w.heap.size+1) HI3.out.2,HI3.out.1,?_⟩
   rw [HH.out.2.2.2.1,HH.out.2.2.1];rfl
 case stop =>
  rintro D0 c i W hD0 hDlt hnD hi0 him hm ⟨rfl,hrb,hgo⟩ hdd
  have hbW:Below w.heap.size w W:=G.out.2.1.trans (hm.below (by have:=G.out.1;omega) (fun k hk=>by omega))
  have E:CkEnd w W [D0] 1:=⟨hbW,hrb,by simp,fun d hd=>by simp at hd;subst hd;exact ⟨hdd,by have:=G.out.1;omega⟩⟩
  have HE:=Lh E
  have HFC:Hid (fc=1):=Lh (by rw [HCS.out,if_pos hgo])
  clear E hbW hrb hdd hm hgo
  gi_wp2_with fail
  exact HE.out.leavesF (fun W' hc=>by simp [results,Tryz.results74,go_sem,hc]) (fun W' hb=>⟨by rw [HFC.out],hb⟩)
 case done =>
  rintro D0 W hD0 hDlt hnD hm ⟨hrb,hgo⟩ hdd
  have hbW:Below w.heap.size w W:=G.out.2.1.trans (hm.below (by have:=G.out.1;omega) (fun k hk=>by omega))
  have hfb:W.heap[w.heap.size]?=some (.cells #[.int .i64 kind,.string ⟨name.toArray⟩,.int .i64 n,.slice x.t.a terms.length x.t.cap,.slice x.b.a binds.length x.b.cap,.slice x.l.a fl.length x.l.cap] 64 (0,0)):=heap_kept G.out.2.2.1 hm (by omega)
  have E:CkEnd w W [D0] 0:=⟨hbW,hrb,by simp,fun d hd=>by simp at hd;subst hd;exact ⟨hdd,by have:=G.out.1;omega⟩⟩
  have hall:nds.all formedF=true:=by rw [hln,List.take_length] at hgo;exact hgo
  have HFC:Hid (fc=if 256<sz∨24<dp then 2 else 0):=Lh (by rw [HCS.out,hall];rfl)
  have HE:=Lh (aI E hfb)
  clear hrb hdd hm hgo hall E
  have b0:W.cell? ⟨w.heap.size,0,none⟩=some (.int .i64 kind):=cH hfb rfl
  have b1:W.cell? ⟨w.heap.size,1,none⟩=some (.string ⟨name.toArray⟩):=cH hfb rfl
  have b2:W.cell? ⟨w.heap.size,2,none⟩=some (.int .i64 n):=cH hfb rfl
  have b3:W.cell? ⟨w.heap.size,3,none⟩=some (.slice x.t.a terms.length x.t.cap):=cH hfb rfl
  have b4:W.cell? ⟨w.heap.size,4,none⟩=some (.slice x.b.a binds.length x.b.cap):=cH hfb rfl
  have b5:W.cell? ⟨w.heap.size,5,none⟩=some (.slice x.l.a fl.length x.l.cap):=cH hfb rfl
  clear hfb
  gi_wp2_with fail
  refine ⟨trivial,rfl,(callsIn_wide.2 (HSZ.out W hbW)).mono ?_⟩
  rintro e w1 ⟨rfl,hb1⟩
  have hE1:=HE.out.1.later hb1
  have hfb1:=(hb1.block _ (gS HE.out.2).1).trans HE.out.2
  have hr0:w1.cell? ⟨w.heap.size+1,0,none⟩=some (.int .i64 0):=cH hE1.res rfl
  have hr1:w1.frozen? ⟨w.heap.size+1,0,none⟩=false:=fH hE1.res
  have HE1:=Lh (aI hE1 (hbW.trans (hb1.mono hbW.size)))
  clear b0 b1 b2 b3 b4 b5 hE1 hb1 hbW
  by_cases hs:(256:Int)<(sz:Int)
  ·gi_wp2_with fail
   refine ⟨trivial,?_⟩
   gi_wp2_with fail
   exact (HE1.out.1.set 2).leavesF (fun W' hc=>by simp [results,Tryz.results74,go_sem,hc]) (fun W' hb=>⟨by rw [HFC.out,if_pos (.inl (by omega))],hb⟩)
  ·have hs':decide ((256:Int)<(sz:Int))=false:=by simpa using hs
   have b0:w1.cell? ⟨w.heap.size,0,none⟩=some (.int .i64 kind):=cH hfb1 rfl
   have b1:w1.cell? ⟨w.heap.size,1,none⟩=some (.string ⟨name.toArray⟩):=cH hfb1 rfl
   have b2:w1.cell? ⟨w.heap.size,2,none⟩=some (.int .i64 n):=cH hfb1 rfl
   have b3:w1.cell? ⟨w.heap.size,3,none⟩=some (.slice x.t.a terms.length x.t.cap):=cH hfb1 rfl
   have b4:w1.cell? ⟨w.heap.size,4,none⟩=some (.slice x.b.a binds.length x.b.cap):=cH hfb1 rfl
   have b5:w1.cell? ⟨w.heap.size,5,none⟩=some (.slice x.l.a fl.length x.l.cap):=cH hfb1 rfl
   have HDP1:=Lh (HDP.out w1 HE1.out.2)
   clear hfb1
   gi_wp2_with fail
   refine ⟨trivial,rfl,(callsIn_wide.2 HDP1.out).mono ?_⟩
   rintro e w2 ⟨rfl,hb2⟩
   have hE2:=HE1.out.1.later hb2
   have hr2:w2.cell? ⟨w.heap.size+1,0,none⟩=some (.int .i64 0):=cH hE2.res rfl
   have hr3:w2.frozen? ⟨w.heap.size+1,0,none⟩=false:=fH hE2.res
   have HE2:=Lh hE2
   clear b0 b1 b2 b3 b4 b5 hE2 hb2 hr0 hr1
   by_cases hd:(24:Int)<(dp:Int)
   ·gi_wp2_with fail
    exact (HE2.out.set 2).leavesF (fun W' hc=>by simp [results,Tryz.results74,go_sem,hc]) (fun W' hb=>⟨by rw [HFC.out,if_pos (.inr (by omega))],hb⟩)
   ·have hd':decide ((24:Int)<(dp:Int))=false:=by simpa using hd
    gi_wp2_with fail
    exact (HE2.out.set 0).leavesF (fun W' hc=>by simp [results,Tryz.results74,go_sem,hc]) (fun W' hb=>⟨by rw [HFC.out,if_neg (by omega)],hb⟩)
end Go.Proofs.YtncnnbmeacpboaaGreatDoor
/- types: find, formed, may, sort. -/
namespace Go.Chalk
open Go.RowKit
def findI (a:List Bnd) (name:Bs):Int:=match findB a name with | some i=>i | none => -1
theorem findN_findI (a:List Bnd) (name:Bs):findN (fun j=>(a[j]?.map (fun b=>b.name==name)).getD false) a.length=findI a name:=by
 unfold findI findB
 cases h:a.findIdx? (fun b=>b.name==name) with
 | none =>
  rw [List.findIdx?_eq_none_iff] at h
  exact findN_none (fun i hi=>by rw [List.getElem?_eq_getElem hi];simpa using h _ (List.getElem_mem hi))
 | some i =>
  rw [List.findIdx?_eq_some_iff_getElem] at h
  obtain ⟨hi,h1,h2⟩:=h
  exact findN_some hi (by rw [List.getElem?_eq_getElem hi];simpa using h1) (fun j hj=>by rw [List.getElem?_eq_getElem (by omega)];simpa using h2 j hj)
theorem cellsAt_of_heap {w:World} {b:Nat} {cs:List Value} {T:TypeId} {fz:Nat×Nat} (h:w.heap[b]?=some (.cells cs.toArray T fz)):CellsAt w b 0 cs:=fun j hj=>by
 rw [Nat.zero_add];exact cH h (by simp [hj])
theorem SlIn.lit {w:World} {F:Nat->Prop} {xs:List D} {cs:List Value} {b cap:Nat} {T:TypeId} {fz:Nat×Nat} (h:w.heap[b]?=some (.cells cs.toArray T fz)) (hd:DsAt w F xs cs) (hF:F b) (h1:xs.length<=cap) (h2:cap<=maxLen):SlIn w F xs ⟨some ⟨b,0,none⟩,b,0,cap⟩ :=
 ⟨fun _=>⟨rfl,hF⟩,h1,h2,RowAt.mk hd (cellsAt_of_heap h)⟩
theorem SlIn.nil {w:World} {F:Nat->Prop} {cap:Nat} (h2:cap<=maxLen) (a:Option Addr) (b o:Nat):SlIn w F [] ⟨a,b,o,cap⟩:=⟨fun h=>by simp at h,Nat.zero_le _,h2,by rw [RowAt];trivial⟩
theorem DsAt.flat1 {w:World} {F:Nat->Prop} {x:D} (h:x.isFlat=true) (hk:x.fine):DsAt w F [x] x.vals:=by
 rw [DsAt];exact ⟨x.vals,[],by simp,(DAt.flat _ _ h).2 ⟨rfl,hk⟩,by rw [DsAt]⟩
theorem DsAt.frm1 {w:World} {F:Nat->Prop} {f:Frm} {x:FrmA} (h:FrmIn w F f x):DsAt w F [f.toD] (x.cells f):=by
 rw [DsAt];exact ⟨_,[],by simp,FrmIn.iff.2 ⟨x,rfl,h⟩,by rw [DsAt]⟩
theorem FrmIn.bare {w:World} {F:Nat->Prop} {kind n:Int} {name:Bs} (hk:I64 kind) (hn:name.length<=maxLen) (h:I64 n):FrmIn w F (.mk kind name n [] [] []) ⟨noSl,noSl,noSl⟩ :=
 ⟨hk,hn,h,SlIn.nil (Nat.zero_le _) _ _ _,SlIn.nil (Nat.zero_le _) _ _ _,SlIn.nil (Nat.zero_le _) _ _ _⟩
theorem i64_small {n:Int} (h : -1000<=n) (h':n<=2000000000000):I64 n:=⟨by omega,by omega⟩
structure BndFit (b:Bnd):Prop where
 name:b.name.length<=4000000
 sort:I64 b.sort
theorem Bnd.fine {b:Bnd} (h:BndFit b):b.toD.fine:=by
 refine ⟨?_,?_,trivial⟩
 ·rw [D.fine,bs_size];have:=h.name;unfold maxLen;omega
 ·exact h.sort.wf
theorem Bnd.fit_of {b:Bnd} (h:b.toD.fine) (hl:b.name.length<=4000000):BndFit b:=⟨hl,I64.of_wf h.2.1⟩
def bindFrm (b:Bnd):Frm:=.mk 14 [] 0 [] [b] [.mk 1 [] 0 [] [] []]
theorem bindFrm_check (b:Bnd):(frmCheck (bindFrm b)==0)=bndOk b:=by
 have h:(nodesF (bindFrm b)).all formedF=bndOk b:=by
  simp [bindFrm,nodesF,nodesL,formedF,partsOk,arityF,atomK,quantK,countK,numberB,Frm.kind,Frm.terms,Frm.binds,Frm.l,Frm.n,Frm.name]
 unfold frmCheck
 rw [h]
 cases hb:bndOk b
 ·rfl
 ·rw [if_neg (by simp),if_neg (by simp [bindFrm,Frm.size,fsizes,Frm.depth,fdepths])];rfl
end Go.Chalk
namespace Go.Proofs.YtncnnbmeacpboaaGreatDoor
open Go.RowKit Go.Chalk
theorem indexFunc_Arnd (f:FuncId) (lb:Array Value) (p:Nat->Bool) (n:Nat) (c0 c1:Nat->Value) (a:Option Addr) (b o cap:Nat) (w:World) (hsl:SlAt (·<w.heap.size) a b o n) (hc:∀ j,j<n->w.cell? ⟨b,o+j*2,none⟩=some (c0 j)/\w.cell? ⟨b,o+j*2+1,none⟩=some (c1 j)) (hp:∀ j,j<n->∀ W,Below w.heap.size w W->Calls Tryz.prog f (#[.agg #[c0 j,c1 j]]++lb) W (Answers W (p j)))
  (hent:∀ (args:Array Value) (w:World),(callFunc f args).run Tryz.prog w=.ok (.enter f args) w) (hmax:n<=2000000) :
  Calls Tryz.prog 183 #[.slice a n cap,.func (.func f) #[] lb] w fun e w'=>e=.returned (.int .i64 (findN p n))/\Below w.heap.size w w':=by
 have HC:=Lh hc
 have HP:=Lh hp
 clear hc hp
 go_enter Tryz.func183,Tryz.ntmps183
 go_wp2_with fail
 go_loopw [8,5] (fun i _ wr=>∃ j:Nat,j<=n/\i=.int .i64 j/\Hid (∀ i,i<j->p i=false)/\Below w.heap.size w wr) (fun i _ _=>n - (intOf i).toNat)
 case atStart=>exact ⟨0,Nat.zero_le _,rfl,Lh (fun i hi=>by omega),Below.refl _ _⟩
 case round =>
  obtain ⟨j,hj,rfl,HF,hb⟩:=hrel
  have hbs:=hb.size
  by_cases hlt:j<n
  ·obtain ⟨rfl,hbl⟩:=hsl (by omega)
   obtain ⟨q0,q1⟩:=HC.out j hlt
   have e0:=(hb.cell (p:=⟨b,o+j*2,none⟩) hbl).trans q0
   have e1:=(hb.cell (p:=⟨b,o+j*2+1,none⟩) hbl).trans q1
   have HCL:=Lh (HP.out j hlt wr hb)
   have HN:=Lh (fun (h:p j=true)=>findN_some hlt h HF.out)
   have HM:=Lh (fun (h:p j=false) (i:Nat) (hi:i<j+1)=>(by
    by_cases hij:i=j
    ·rw [hij];exact h
    ·exact HF.out i (by omega):p i=false))
   clear q0 q1
   go_wp2_with fail
   refine HCL.out.mono ?_
   rintro e w' ⟨rfl,hb'⟩
   have hbb:=hb.trans (hb'.mono hbs)
   generalize hr:p j=r at HN HM ⊢
   have HR:=Lh hr
   clear hr
   cases r
   ·go_wp2_with fail
    exact ⟨⟨j+1,by omega,by go_num,Lh (HM.out (by first | rfl | trivial)),hbb⟩,by simp [intOf];omega⟩
   ·go_wp2_with fail
    go_ret
    exact ⟨ret_int (HN.out (by first | rfl | trivial)).symm,hbb⟩
  ·go_wp2_with fail
   go_ret
   exact ⟨ret_int (findN_none (fun i hi=>HF.out i (by omega))).symm,hb⟩


theorem find1_any (b:Bnd) (name:Bs) (p:Nat) (w:World) (hp:w.cell? ⟨p,0,none⟩=some (.string ⟨name.toArray⟩)) :
  Calls Tryz.prog 184 #[.agg #[.string ⟨b.name.toArray⟩,.int .i64 b.sort],.pointer (some ⟨p,0,none⟩)] w (Answers w (b.name==name)):=by
 obtain ⟨nm,sort⟩:=b
 simp only
 have hp':=cell_alloc (x:=.cells #[.string ⟨nm.toArray⟩,.int .i64 sort] 94) hp
 clear hp
 go_enter Tryz.func184,Tryz.ntmps184
 go_wp2_with fail
 go_ret
 exact ⟨rfl,(Below.refl _ _).alloc (Nat.le_refl _) _⟩
theorem find_any (a:List Bnd) (x:SlA) (name:Bs) (w:World) (hx:SlIn w (·<w.heap.size) (a.map Bnd.toD) x) (hl:a.length<=2000000) :
  Calls Tryz.prog 149 #[.slice x.a a.length x.cap,.string ⟨name.toArray⟩] w fun e w'=>e=.returned (.int .i64 (findI a name))/\Below w.heap.size w w':=by
 have hba:Below w.heap.size w (w.alloc (.cells #[.string ⟨name.toArray⟩] 9)):=(Below.refl _ _).alloc (Nat.le_refl _) _
 have hx1:=hx.later hba (C:=(w.alloc (.cells #[.string ⟨name.toArray⟩] 9)).heap.size) (by simp)
 obtain ⟨g1,_,_,g4,_⟩:=hx1.flat Bnd.flatT
 have hq:(w.alloc (.cells #[.string ⟨name.toArray⟩] 9)).cell? ⟨w.heap.size,0,none⟩=some (.string ⟨name.toArray⟩):=cH (boxed (B:=w.heap.size+1) (Below.refl _ _) (by omega)) rfl
 have hc:=indexFunc_Arnd 184 #[.pointer (some ⟨w.heap.size,0,none⟩)] (fun j=>(a[j]?.map (fun b=>b.name==name)).getD false) a.length (fun j=>.string ⟨(a[j]?.map (·.name.toArray)).getD #[]⟩) (fun j=>.int .i64 ((a[j]?.map (·.sort)).getD 0)) x.a x.b x.o x.cap _ g1
  (fun j hj=>by
   have h:=g4.two j hj rfl
   rw [List.getElem?_eq_getElem hj]
   exact h)
  (fun j hj W hW=>by
   rw [List.getElem?_eq_getElem hj]
   exact find1_any a[j] name w.heap.size W ((hW.cell (World.block_lt_of_cell? _ _ hq)).trans hq))
  (fun _ _=>enters_of Tryz.func184 (by kernel_rfl) rfl _ _) hl
 rw [findN_findI] at hc
 have HC:=Lh hc
 have HB:=Lh hba
 have hmf:∀ (fn:Fn) (first cap:Array Value) (w:World),(Instr.makeFunc fn first cap).run Tryz.prog w=.ok (.func fn first cap) w:=fun _ _ _ _=>rfl
 clear hx hx1 g1 g4 hq hc hba
 go_enter Tryz.func149,Tryz.ntmps149
 go_wp2_with fail
 refine HC.out.mono ?_
 rintro e w1 ⟨rfl,hb⟩
 have HB1:=Lh hb
 clear hb
 go_wp2_with fail
 go_ret
 exact ⟨rfl,HB.out.trans (HB1.out.mono HB.out.size)⟩

theorem tformed_any (b:Bnd) (w:World) (hb:BndFit b) (hg:GG w) :
  Calls Tryz.prog 112 #[.agg #[.string ⟨b.name.toArray⟩,.int .i64 b.sort]] w fun e w'=>e=.returned (.bool (bndOk b))/\Below w.heap.size w w':=by
 generalize hW3:(((w.alloc (.cells #[.string ⟨b.name.toArray⟩,.int .i64 b.sort] 94)).alloc (.cells #[.string ⟨b.name.toArray⟩,.int .i64 b.sort] 94)).alloc (.cells #[.int .i64 1,.string ⟨#[]⟩,.int .i64 0,.slice none 0 0,.slice none 0 0,.slice none 0 0] 64))=W3
 have hsz:W3.heap.size=w.heap.size+3:=by rw [<- hW3];simp
 have hb3:Below w.heap.size w W3:=by rw [<- hW3];exact (((Below.refl _ _).alloc (Nat.le_refl _) _).alloc (by simp) _).alloc (by simp;omega) _
 have g1:W3.heap[w.heap.size+1]?=some (.cells #[.string ⟨b.name.toArray⟩,.int .i64 b.sort] 94 (0,0)):=by rw [<- hW3];simp only [heap_get,World.size_alloc];repeat (first | rw [if_pos trivial] | rw [if_pos (by omega)] | rw [if_neg (by omega)])
 have g2:W3.heap[w.heap.size+1+1]?=some (.cells #[.int .i64 1,.string ⟨#[]⟩,.int .i64 0,.slice none 0 0,.slice none 0 0,.slice none 0 0] 64 (0,0)):=by rw [<- hW3];simp only [heap_get,World.size_alloc];repeat (first | rw [if_pos trivial] | rw [if_pos (by omega)] | rw [if_neg (by omega)])
 have hin:FrmIn W3 (·<W3.heap.size) (bindFrm b) ⟨noSl,⟨some ⟨w.heap.size+1,0,none⟩,w.heap.size+1,0,1⟩,⟨some ⟨w.heap.size+1+1,0,none⟩,w.heap.size+1+1,0,1⟩⟩ :=
  ⟨(show I64 14 from i64_small (by decide) (by decide)),Nat.zero_le _,(show I64 0 from i64_small (by decide) (by decide)),SlIn.nil (Nat.zero_le _) _ _ _,SlIn.lit (cs:=b.toD.vals) g1 (DsAt.flat1 (Bnd.flatT.flat b) (Bnd.fine hb)) (by show _<_;omega) (Nat.le_refl _) (by decide),
   SlIn.lit (cs:=(⟨noSl,noSl,noSl⟩:FrmA).cells (.mk 1 [] 0 [] [] [])) g2 (DsAt.frm1 (FrmIn.bare (i64_small (by decide) (by decide)) (Nat.zero_le _) (i64_small (by decide) (by decide)))) (by show _<_;omega) (Nat.le_refl _) (by decide)⟩
 have hfit:FrmFit (bindFrm b):=⟨by simp [bindFrm,Frm.size,fsizes],fun g hg=>by
  simp only [bindFrm,nodesF,nodesL,List.append_nil,List.mem_cons,List.not_mem_nil,or_false] at hg
  rcases hg with rfl | rfl
  ·refine ⟨by simp [Frm.terms],by simp [Frm.binds],by simp [Frm.l],by simp [Frm.name],fun t ht=>by simp [Frm.terms] at ht,fun c hc=>?_⟩
   simp only [Frm.binds,List.mem_singleton] at hc
   subst hc;exact hb.name
  ·exact ⟨by simp [Frm.terms],by simp [Frm.binds],by simp [Frm.l],by simp [Frm.name],fun t ht=>by simp [Frm.terms] at ht,fun c hc=>by simp [Frm.binds] at hc⟩⟩
 have hc:=fcheck_any (bindFrm b) _ W3 hin hfit (hg.below hb3)
 have he:=bindFrm_check b
 rw [show bindFrm b=.mk 14 [] 0 [] [b] [.mk 1 [] 0 [] [] []] from rfl] at he
 simp only [bindFrm,ndV,FrmA.cells,SlA.val,Frm.kind,Frm.name,Frm.n,Frm.terms,Frm.binds,Frm.l,List.length_nil,List.length_singleton,noSl] at hc
 rw [<- hW3] at hc
 have HC:=Lh hc
 have HE:=Lh he
 have HB:=Lh (aI hb3 hW3)
 clear hc hin hfit g1 g2 hsz hb3 hb hg he hW3
 generalize frmCheck (.mk 14 [] 0 [] [b] [.mk 1 [] 0 [] [] []])=fc at HC HE
 obtain ⟨name,sort⟩:=b
 simp only at HC HB ⊢
 go_enter Tryz.func112,Tryz.ntmps112
 go_wp2_with fail
 refine HC.out.mono ?_
 rintro e w1 ⟨rfl,hb1⟩
 have HB1:=Lh hb1
 clear hb1
 go_wp2_with fail
 go_ret
 have h:=HB.out.1
 rw [<- HB.out.2] at h
 exact ⟨ret_bool HE.out,h.trans (HB1.out.mono h.size)⟩
theorem rule1_any (b:Bnd) (w:World) (hb:BndFit b) (hg:GG w) :
  Calls Tryz.prog 111 #[.agg #[.string ⟨b.name.toArray⟩,.int .i64 b.sort]] w (Answers w (!(bndOk b))):=by
 have hba:Below w.heap.size w (w.alloc (.cells #[.string ⟨b.name.toArray⟩,.int .i64 b.sort] 94)):=(Below.refl _ _).alloc (Nat.le_refl _) _
 have HT:=Lh (tformed_any b _ hb (hg.below hba))
 have HB:=Lh hba
 clear hb hg hba
 generalize bndOk b=v at HT ⊢
 obtain ⟨name,sort⟩:=b
 simp only at *
 go_enter Tryz.func111,Tryz.ntmps111
 go_wp2_with fail
 refine HT.out.mono ?_
 rintro e w1 ⟨rfl,hb1⟩
 have HB1:=Lh hb1
 clear hb1
 go_wp2_with fail
 go_ret
 exact ⟨rfl,HB.out.trans (HB1.out.mono HB.out.size)⟩
theorem each_bad (l:List Bnd) (x:SlA) (w:World) (hx:SlIn w (·<w.heap.size) (l.map Bnd.toD) x) (hl:l.length<=2000000) (hmax:∀ t∈l,t.name.length<=4000000) (hg:GG w) :
  Calls Tryz.prog 113 #[.slice x.a l.length x.cap,.func (.func 111) #[] #[]] w fun e w'=>e=.returned (.bool (!(l.all bndOk)))/\Below w.heap.size w w':=by
 obtain ⟨g1,_,_,g4,g5⟩:=hx.flat Bnd.flatT
 rw [show (!(l.all bndOk))=l.any (fun b=>!(bndOk b)) from by rw [List.all_eq_not_any_not,Bool.not_not],<- any_range]
 refine containsFunc_Bnd 111 #[] (fun j=>(l[j]?.map (fun b=>!(bndOk b))).getD false) l.length (fun j=>.string ⟨(l[j]?.map (·.name.toArray)).getD #[]⟩) (fun j=>.int .i64 ((l[j]?.map (·.sort)).getD 0)) x.a x.b x.o x.cap w g1 ?_ ?_ (fun _ _=>enters_of Tryz.func111 (by kernel_rfl) rfl _ _) hl
 ·intro j hj
  have h:=g4.two j hj rfl
  rw [List.getElem?_eq_getElem hj]
  exact h
 ·intro j hj W hW
  rw [List.getElem?_eq_getElem hj]
  exact rule1_any l[j] W (Bnd.fit_of (g5 _ (List.getElem_mem hj)) (hmax _ (List.getElem_mem hj))) (hg.below hW)

def mayAt (a:List Bnd) (i:Nat):Bool:=match a[i]? with | some b=>bndOk b&&(findB a b.name==some i) | none=>true
theorem mayA_eq (a:List Bnd):mayA a=(List.range a.length).all (mayAt a):=rfl
theorem mayAt_eq (a:List Bnd) (i:Nat) (hi:i<a.length):mayAt a i=(bndOk a[i]&&!(findI a a[i].name != (i:Int))):=by
 unfold mayAt findI
 rw [List.getElem?_eq_getElem hi]
 simp only
 congr 1
 cases h:findB a a[i].name with
 | none =>
  have h2:((-1:Int) != (i:Int))=true:=by simp
  simp only [h2];rfl
 | some k =>
  by_cases hk:k=i
  ·subst hk;simp
  ·have h2:((k:Int) != (i:Int))=true:=by simp;omega
   have h3:(some k==some i)=false:=by simp;omega
   simp only [h2,h3];rfl
theorem amay_any (a:List Bnd) (x:SlA) (w:World) (hx:SlIn w (·<w.heap.size) (a.map Bnd.toD) x) (hl:a.length<=2000000) (hmax:∀ t∈a,t.name.length<=4000000) (hg:GG w) :
  Calls Tryz.prog 114 #[.slice x.a a.length x.cap] w fun e w'=>e=.returned (.bool (mayA a))/\Below w.heap.size w w':=by
 obtain ⟨g1,_,_,g4,g5⟩:=hx.flat Bnd.flatT
 have HC:=Lh g4
 have HX:=Lh hx
 have HFI:=Lh (fun (j:Nat) (hj:j<a.length)=>Bnd.fit_of (g5 _ (List.getElem_mem hj)) (hmax _ (List.getElem_mem hj)))
 have HG:=Lh hg
 rw [mayA_eq]
 clear hx hg g4 g5 hmax
 go_enter Tryz.func114,Tryz.ntmps114
 go_wp2_with fail
 go_loopw [7] (fun i wr=>∃ j:Nat,j<=a.length/\i=.int .i64 j/\Below w.heap.size w wr/\Hid (∀ i,i<j->mayAt a i=true)) (fun i _=>a.length - (intOf i).toNat)
 case atStart=>exact ⟨0,Nat.zero_le _,rfl,Below.refl _ _,Lh (fun i h=>by omega)⟩
 case round =>
  obtain ⟨j,hj,rfl,hb,HM⟩:=hrel
  by_cases hlt:j<a.length
  ·obtain ⟨hxa,hbl⟩:=g1 (by omega)
   obtain ⟨q0,q1⟩:=HC.out.two j hlt rfl
   have e0:=(hb.cell (p:=⟨x.b,x.o+j*2,none⟩) hbl).trans q0
   have e1:=(hb.cell (p:=⟨x.b,x.o+j*2+1,none⟩) hbl).trans q1
   have hba:Below w.heap.size w (wr.alloc (.cells #[.string ⟨a[j].name.toArray⟩,.int .i64 a[j].sort] 94)):=hb.alloc hb.size _
   have HF1:=Lh (tformed_any a[j] (wr.alloc (.cells #[.string ⟨a[j].name.toArray⟩,.int .i64 a[j].sort] 94)) (HFI.out j hlt) (HG.out.below hba))
   have HFD:=Lh (fun (W:World) (hW:Below w.heap.size w W)=>find_any a x a[j].name W (HX.out.later hW hW.size) hl)
   have HE:=Lh (mayAt_eq a j hlt)
   have HBA:=Lh hba
   rw [hxa] at HFD ⊢
   clear q0 q1 hba
   generalize findI a a[j].name=fi at HFD HE
   generalize hbe:a[j]=be at HF1 HFD HE HBA e0 e1
   obtain ⟨nm,so⟩:=be
   simp only at HF1 HFD HE HBA e0 e1
   generalize bndOk ⟨nm,so⟩=bo at HF1 HE
   clear hbe
   go_wp2_with fail
   refine HF1.out.mono ?_
   rintro e w1 ⟨rfl,hb1⟩
   have hb1':=HBA.out.trans (hb1.mono HBA.out.size)
   have q0:w1.cell? ⟨wr.heap.size,0,none⟩=some (.string ⟨nm.toArray⟩):=cH (boxed (B:=wr.heap.size+1) (by simpa using hb1) (by omega)) rfl
   have HB1:=Lh hb1'
   clear hb1 hb1'
   cases bo
   ·go_wp2_with fail
    go_ret
    exact ⟨ret_bool (List.all_eq_false.2 ⟨j,List.mem_range.2 hlt,by rw [HE.out];simp⟩).symm,HB1.out⟩
   ·have HFW:=Lh (HFD.out w1 HB1.out)
    have hd:(fi != (j:Int))=true∨(fi != (j:Int))=false:=by cases (fi != (j:Int)) <;> simp
    rcases hd with hd | hd
    ·go_wp2_with fail
     refine HFW.out.mono ?_
     rintro e w2 ⟨rfl,hb2⟩
     have HB2:=Lh (HB1.out.trans (hb2.mono HB1.out.size))
     clear hb2 q0
     go_wp2_with fail
     go_ret
     exact ⟨ret_bool (List.all_eq_false.2 ⟨j,List.mem_range.2 hlt,by rw [HE.out];simp at hd;simp [hd]⟩).symm,HB2.out⟩
    ·obtain rfl:fi=j:=int_eq hd
     clear hd
     go_wp2_with fail
     refine HFW.out.mono ?_
     rintro e w2 ⟨rfl,hb2⟩
     have HB2:=Lh (HB1.out.trans (hb2.mono HB1.out.size))
     clear hb2 q0
     go_wp2_with fail
     refine ⟨⟨j+1,by omega,by go_num,HB2.out,Lh (fun i hi=>?_)⟩,by simp [intOf];omega⟩
     by_cases hij:i=j
     ·rw [hij,HE.out];simp
     ·exact HM.out i (by omega)
  ·go_wp2_with fail
   go_ret
   exact ⟨ret_bool (List.all_eq_true.2 (fun i hi=>HM.out i (by have:=List.mem_range.1 hi;omega))).symm,hb⟩

theorem sort_one (a:List Bnd) {kind:Int} (name:Bs) (n:Int) (h:kind=1):sortF a ⟨kind,name,n⟩=(8,0):=by unfold sortF;rw [if_pos h]
theorem sort_none {a:List Bnd} {kind:Int} {name:Bs} (n:Int) (h:¬ kind=1) (hf:findB a name=none):sortF a ⟨kind,name,n⟩=(0,81):=by unfold sortF;simp only [if_neg h,hf]
theorem sort_some {a:List Bnd} {kind:Int} {name:Bs} (n:Int) (h:¬ kind=1) {i:Nat} (hf:findB a name=some i) (hi:i<a.length):sortF a ⟨kind,name,n⟩=if kind=2 then (a[i].sort,0) else if (takesF kind).1 ≠ a[i].sort then (0,80) else ((takesF kind).2,0):=by
 unfold sortF;simp only [if_neg h,hf,List.getElem?_eq_getElem hi]
theorem sort_any (a:List Bnd) (x:SlA) (t:Trm) (w:World) (hx:SlIn w (·<w.heap.size) (a.map Bnd.toD) x) (hl:a.length<=2000000) (hk:1<=t.kind/\t.kind<=7) (hg:GG w) :
  Calls Tryz.prog 151 #[.slice x.a a.length x.cap,.agg #[.int .i64 t.kind,.string ⟨t.name.toArray⟩,.int .i64 t.n]] w fun e w'=>e=.returned (.tuple #[.int .i64 (sortF a t).1,.int .i64 (sortF a t).2])/\Below w.heap.size w w':=by
 obtain ⟨kind,name,n⟩:=t
 simp only at hk ⊢
 have hba:Below w.heap.size w (w.alloc (.cells #[.int .i64 kind,.string ⟨name.toArray⟩,.int .i64 n] 92)):=(Below.refl _ _).alloc (Nat.le_refl _) _
 have HB:=Lh hba
 by_cases h1:kind=1
 ·rw [sort_one a name n h1]
  clear hx hg hba
  subst h1
  go_enter Tryz.func151,Tryz.ntmps151
  go_wp2_with fail
  go_ret2
  exact ⟨rfl,HB.out⟩
 ·have h1':(kind==1)=false:=by simpa using h1
  have HF:=Lh (find_any a x name _ (hx.later hba (C:=(w.alloc (.cells #[.int .i64 kind,.string ⟨name.toArray⟩,.int .i64 n] 92)).heap.size) (by simp)) hl)
  cases hf:findB a name with
  | none =>
   rw [sort_none n h1 hf]
   have hfi:findI a name = -1:=by unfold findI;rw [hf]
   rw [hfi] at HF
   clear hx hg hba hf hfi
   go_enter Tryz.func151,Tryz.ntmps151
   go_wp2_with fail
   refine HF.out.mono ?_
   rintro e w1 ⟨rfl,hb1⟩
   have HB1:=Lh hb1
   clear hb1
   go_wp2_with fail
   go_ret2
   exact ⟨rfl,HB.out.trans (HB1.out.mono HB.out.size)⟩
  | some i =>
   have hi:i<a.length:=(List.findIdx?_eq_some_iff_getElem.1 hf).1
   rw [sort_some n h1 hf hi]
   have hfi:findI a name=i:=by unfold findI;rw [hf]
   rw [hfi] at HF
   obtain ⟨g1,_,_,g4,g5⟩:=hx.flat Bnd.flatT
   obtain ⟨q0,q1⟩:=g4.two i hi rfl
   obtain ⟨hxa,hbl⟩:=g1 (by omega)
   have HQ:=Lh (fun (W:World) (hb:Below w.heap.size w W)=>(hb.cell (p:=⟨x.b,x.o+i*2+1,none⟩) hbl).trans q1)
   have HG:=Lh (fun (W:World) (hb:Below w.heap.size w W)=>(hg.below hb).takes kind.toNat (by omega))
   have hkn:((kind.toNat:Nat):Int)=kind:=by omega
   rw [hkn] at HG
   rw [hxa] at HF ⊢
   clear hx hg hba hf hfi g1 g4 g5 q0 q1 hxa hbl
   generalize a[i].sort=so at HQ ⊢
   generalize a.length=al at hl hi HF ⊢
   by_cases h2:kind=2
   ·subst h2
    rw [if_pos rfl]
    clear hkn HG h1' hk h1
    go_enter Tryz.func151,Tryz.ntmps151
    go_wp2_with fail
    refine HF.out.mono ?_
    rintro e w1 ⟨rfl,hb1⟩
    have HB1:=Lh (HB.out.trans (hb1.mono HB.out.size))
    have q0:w1.cell? ⟨w.heap.size,0,none⟩=some (.int .i64 2):=cH (boxed (B:=w.heap.size+1) (by simpa using hb1) (by omega)) rfl
    have q1:=HQ.out w1 HB1.out
    clear hb1
    go_wp2_with fail
    go_ret2
    exact ⟨rfl,HB1.out⟩
   ·rw [if_neg h2]
    have h2':(kind==2)=false:=by simpa using h2
    obtain ⟨k,hkk⟩:∃ k,k=kind.toNat:=⟨_,rfl⟩
    rw [<- hkk] at HG hkn
    clear hkk
    subst hkn
    generalize (takesF (k:Int)).1=t1 at HG ⊢
    generalize (takesF (k:Int)).2=t2 at HG ⊢
    have hd:(t1 ≠ so/\(t1 != so)=true)∨(t1=so/\(t1 != so)=false):=by by_cases h:t1=so <;> simp [h]
    rcases hd with ⟨d1,d2⟩ | ⟨d1,d2⟩
    ·rw [if_pos d1]
     have HD:=Lh d1
     clear d1
     go_enter Tryz.func151,Tryz.ntmps151
     go_wp2_with fail
     refine HF.out.mono ?_
     rintro e w1 ⟨rfl,hb1⟩
     have HB1:=Lh (HB.out.trans (hb1.mono HB.out.size))
     have q0:w1.cell? ⟨w.heap.size,0,none⟩=some (.int .i64 k):=cH (boxed (B:=w.heap.size+1) (by simpa using hb1) (by omega)) rfl
     have q1:=HQ.out w1 HB1.out
     obtain ⟨q2,q3⟩:=HG.out w1 HB1.out
     clear hb1
     have hin:(i:Int)<(al:Int):=by omega
     have hkb:(k:Int)<8:=by omega
     go_wp2_with fail
     go_quiet (fail)
     go_wp2_with fail
     go_ret2
     exact ⟨rfl,HB1.out.trans ⟨rfl,rfl,rfl,Nat.le_refl _,fun _ _=>rfl⟩⟩
    ·subst d1
     rw [if_neg (by simp)]
     go_enter Tryz.func151,Tryz.ntmps151
     go_wp2_with fail
     refine HF.out.mono ?_
     rintro e w1 ⟨rfl,hb1⟩
     have HB1:=Lh (HB.out.trans (hb1.mono HB.out.size))
     have q0:w1.cell? ⟨w.heap.size,0,none⟩=some (.int .i64 k):=cH (boxed (B:=w.heap.size+1) (by simpa using hb1) (by omega)) rfl
     have q1:=HQ.out w1 HB1.out
     obtain ⟨q2,q3⟩:=HG.out w1 HB1.out
     clear hb1
     have hin:(i:Int)<(al:Int):=by omega
     have hkb:(k:Int)<8:=by omega
     go_wp2_with fail
     go_quiet (fail)
     go_wp2_with fail
     go_ret2
     exact ⟨rfl,HB1.out.trans ⟨rfl,rfl,rfl,Nat.le_refl _,fun _ _=>rfl⟩⟩
end Go.Proofs.YtncnnbmeacpboaaGreatDoor
/- types: sorts. -/
namespace Go.Chalk
open Go.RowKit
def badWant (want:Option (List Int)) (i:Nat) (s:Int):Bool:=match want with | some ws=>ws[i]?.getD 0 != s | none=>false
def sortsGo (a:List Bnd) (want:Option (List Int)):List Trm->Nat->List Int->List Int×Int
 | [],_,out=>(out,0)
 | t :: r,i,out=>if (sortF a t).2 ≠ 0 then ([],(sortF a t).2) else if badWant want i (sortF a t).1=true then ([],80) else sortsGo a want r (i+1) (out++[(sortF a t).1])
def sortsF (a:List Bnd) (want:Option (List Int)) (l:List Trm):List Int×Int:=sortsGo a want l 0 []
theorem sortsGo_err {a:List Bnd} {want:Option (List Int)} {l:List Trm} {j:Nat} {out:List Int} (hj:j<l.length) {e1:Int} (he:(sortF a l[j]).2=e1) (h:e1 ≠ 0):sortsGo a want (l.drop j) j out=([],e1):=by
 rw [List.drop_eq_getElem_cons hj,sortsGo,if_pos (by rw [he];exact h),he]
theorem sortsGo_want {a:List Bnd} {ws:List Int} {l:List Trm} {j:Nat} {out:List Int} (hj:j<l.length) (he:(sortF a l[j]).2=0) {x s:Int} (hs:(sortF a l[j]).1=s) (hx:ws[j]?.getD 0=x) (h:x ≠ s):sortsGo a (some ws) (l.drop j) j out=([],80):=by
 rw [List.drop_eq_getElem_cons hj,sortsGo,if_neg (by rw [he];simp),if_pos (by unfold badWant;simp only [hx,hs];simpa using h)]
theorem sortsGo_next {a:List Bnd} {want:Option (List Int)} {l:List Trm} {j:Nat} {out:List Int} (hj:j<l.length) (he:(sortF a l[j]).2=0) {s:Int} (hs:(sortF a l[j]).1=s) (h:badWant want j s=false):sortsGo a want (l.drop j) j out=sortsGo a want (l.drop (j+1)) (j+1) (out++[s]):=by
 conv=>lhs;rw [List.drop_eq_getElem_cons hj,sortsGo,if_neg (by rw [he];simp),hs]
 rw [if_neg (by rw [h];simp)]
theorem sortF_i64 {a:List Bnd} (h:∀ b∈a,I64 b.sort) (t:Trm):I64 (sortF a t).1/\I64 (sortF a t).2:=by
 have k:∀ n:Int,0<=n->n<=100->I64 n:=fun n h1 h2=>i64_small (by omega) (by omega)
 unfold sortF
 split
 ·exact ⟨k _ (by decide) (by decide),k _ (by decide) (by decide)⟩
 ·split
  ·exact ⟨k _ (by decide) (by decide),k _ (by decide) (by decide)⟩
  ·split
   ·exact ⟨k _ (by decide) (by decide),k _ (by decide) (by decide)⟩
   ·rename_i b hb
    split
    ·exact ⟨h _ (List.mem_of_getElem? hb),k 0 (by decide) (by decide)⟩
    ·split
     ·exact ⟨k _ (by decide) (by decide),k _ (by decide) (by decide)⟩
     ·refine ⟨?_,k 0 (by decide) (by decide)⟩
      unfold takesF
      repeat' split
      all_goals exact k _ (by decide) (by decide)
end Go.Chalk
namespace Go.Proofs.YtncnnbmeacpboaaGreatDoor
open Go.RowKit Go.Chalk
theorem sorts_nil (a:List Bnd) (x:SlA) (l:List Trm) (y:SlA) (w:World) (hx:SlIn w (·<w.heap.size) (a.map Bnd.toD) x) (hy:SlIn w (·<w.heap.size) (l.map Trm.toD) y) (hl:a.length<=2000000) (hly:l.length<=2000000)
  (hk:∀ t∈l,1<=t.kind/\t.kind<=7) (hg:GG w) :
  Calls Tryz.prog 150 #[.slice y.a l.length y.cap,.func (.func 151) #[.slice x.a a.length x.cap] #[],.slice none 0 0] w fun e w'=>∃ v,e=.returned (.tuple #[v,.int .i64 (sortsF a none l).2])/\Onto1 w' w.heap.size (fun _=>False) 3 1 v (dints (sortsF a none l).1)/\Below w.heap.size w w':=by
 obtain ⟨g1,_,_,g4,g5⟩:=hy.flat Trm.flatT
 have HC:=Lh g4
 have HY:=Lh hy
 have HX:=Lh hx
 have hbi:∀ b∈a,I64 b.sort:=fun b hb=>by
  obtain ⟨_,_,_,_,k5⟩:=hx.flat Bnd.flatT
  have:=(k5 b hb).2.1
  exact I64.of_wf this
 have HS:=Lh (fun t=>sortF_i64 hbi t)
 have HK:=Lh (fun (j:Nat) (hj:j<l.length)=>hk _ (List.getElem_mem hj))
 have HG:=Lh hg
 
 obtain ⟨i0,hi,hz0,hz1,hz2⟩:=info_parts infoInt
 clear hx hy hg g4 g5 hbi hk
 go_enter Tryz.func150,Tryz.ntmps150
 go_wp2_with fail
 go_loopw [6,7,14] (fun o ee i wr=>∃ (j:Nat) (out:List Int),j<=l.length/\i=.int .i64 j/\ee=.int .i64 0/\Below w.heap.size w wr/\Hid (Onto1 wr w.heap.size (fun _=>False) 3 1 o (dints out))/\Hid (out.length=j/\AllI64 out/\sortsF a none l=sortsGo a none (l.drop j) j out)) (fun _ _ i _=>l.length - (intOf i).toNat)
 case atStart=>exact ⟨0,[],Nat.zero_le _,rfl,rfl,Below.refl _ _,Lh (Onto1.nil _ _ _ _ _ (fun _ h=>h.elim)),Lh ⟨rfl,(by intro z hz;cases hz),rfl⟩⟩
 case round =>
  obtain ⟨j,out,hj,rfl,rfl,hb,HO,HE⟩:=hrel
  obtain ⟨oa,ocap,ho⟩:=HO.out.form
  subst ho
  obtain ⟨n,hn⟩:∃ n,n=(dints out).length:=⟨_,rfl⟩
  rw [<- hn] at HO ⊢
  have HN:=Lh hn
  clear hn
  by_cases hlt:j<l.length
  ·obtain ⟨hxa,hbl⟩:=g1 (by omega)
   obtain ⟨q0,q1,q2⟩:=HC.out.three j hlt rfl
   have e0:=(hb.cell (p:=⟨y.b,y.o+j*3,none⟩) hbl).trans q0
   have e1:=(hb.cell (p:=⟨y.b,y.o+j*3+1,none⟩) hbl).trans q1
   have e2:=(hb.cell (p:=⟨y.b,y.o+j*3+2,none⟩) hbl).trans q2
   have hba:Below w.heap.size w (wr.alloc (.cells #[.int .i64 l[j].kind,.string ⟨l[j].name.toArray⟩,.int .i64 l[j].n] 92)):=hb.alloc hb.size _
   have HS1:=Lh (sort_any a x l[j] _ (HX.out.later hba hba.size) hl (HK.out j hlt) (HG.out.below hba))
   have HO1:=Lh (HO.out.below ((Below.refl _ _).alloc (Nat.le_refl _) (.cells #[.int .i64 l[j].kind,.string ⟨l[j].name.toArray⟩,.int .i64 l[j].n] 92)))
   obtain ⟨s1,hs1⟩:∃ s1,(sortF a l[j]).1=s1:=⟨_,rfl⟩
   obtain ⟨c1,hc1⟩:∃ c1,(sortF a l[j]).2=c1:=⟨_,rfl⟩
   have HI:=Lh (HS.out l[j])
   rw [hs1,hc1] at HS1 HI
   have HF:=Lh (aI hs1 hc1)
   have HBA:=Lh hba
   rw [hxa]
   clear q0 q1 q2 hba hs1 hc1
   generalize hte:l[j]=te at HS1 HBA HO1 e0 e1 e2
   obtain ⟨tk,tn,tv⟩:=te
   simp only at HS1 HBA HO1 e0 e1 e2
   clear hte
   have hc:(c1=0/\(c1==0)=true)∨(¬ c1=0/\(c1==0)=false):=by by_cases h:c1=0 <;> simp [h]
   go_wp2_with fail
   refine HS1.out.mono ?_
   rintro e w1 ⟨rfl,hb1⟩
   have HB1:=Lh (HBA.out.trans (hb1.mono HBA.out.size))
   have HO2:=Lh (HO1.out.below hb1)
   clear hb1
   rcases hc with ⟨hc1,hc2⟩ | ⟨hc1,hc2⟩
   ·subst hc1
    clear hc2
    go_wp2_with (at_builtin;go_must (refine wpList_append_one rfl _ _ 30 rfl 3 i0 _ 1 8 Tryz.underlying30 hi hz0 hz1 hz2 rfl (by decide) (.slice oa n ocap) (dints out) (.int .i64 s1) [.int .i64 s1] 3 rfl rfl HO2.out (DsAt.flat1 (x:=.int .i64 s1) rfl HI.out.1.wf) (by have:=HB1.out.size;omega) rfl (by rw [dints_widths];simp) (by have:=HE.out.1;rw [dints_length];unfold maxLen;omega) (by have:=HE.out.1;rw [dints_length];omega) ?_);intro ao cap w5 hon hb5;have HON:=Lh (aI hon (HB1.out.trans hb5));clear hon hb5;rw [<- HN.out])
    refine ⟨⟨j+1,out++[s1],by omega,by go_num,rfl,HON.out.2,Lh ?_,Lh ⟨by have:=HE.out.1;simp;omega,fun z hz=>?_,by rw [HE.out.2.2,sortsGo_next hlt HF.out.2 HF.out.1 rfl]⟩⟩,by simp [intOf];omega⟩
    ·rw [dints_append,HN.out];exact HON.out.1
    ·rcases List.mem_append.1 hz with hz | hz
     ·exact HE.out.2.1 z hz
     ·simp at hz;subst hz;exact HI.out.1
   ·have HCN:=Lh hc1
    clear hc1
    go_wp2_with fail
    go_ret2
    refine ⟨.slice none 0 0,by rw [HE.out.2.2,sortsGo_err hlt HF.out.2 HCN.out];rfl,?_,HB1.out⟩
    rw [HE.out.2.2,sortsGo_err hlt HF.out.2 HCN.out]
    exact Onto1.nil _ _ _ _ _ (fun _ h=>h.elim)
  ·go_wp2_with fail
   go_ret2
   have he:sortsF a none l=(out,0):=by rw [HE.out.2.2,List.drop_eq_nil_of_le (by omega),sortsGo]
   rw [he]
   exact ⟨_,rfl,HO.out,hb⟩
theorem sorts_want (a:List Bnd) (x:SlA) (l:List Trm) (y:SlA) (ws:List Int) (wb wo wc:Nat) (w:World) (hx:SlIn w (·<w.heap.size) (a.map Bnd.toD) x) (hy:SlIn w (·<w.heap.size) (l.map Trm.toD) y) (hl:a.length<=2000000) (hly:l.length<=2000000)
  (hk:∀ t∈l,1<=t.kind/\t.kind<=7) (hwl:ws.length=l.length) (hwb:wb<w.heap.size) (hwc:∀ i (h:i<ws.length),w.cell? ⟨wb,wo+i,none⟩=some (.int .i64 ws[i])) (hg:GG w) :
  Calls Tryz.prog 150 #[.slice y.a l.length y.cap,.func (.func 151) #[.slice x.a a.length x.cap] #[],.slice (some ⟨wb,wo,none⟩) ws.length wc] w fun e w'=>∃ v,e=.returned (.tuple #[v,.int .i64 (sortsF a (some ws) l).2])/\Onto1 w' w.heap.size (fun _=>False) 3 1 v (dints (sortsF a (some ws) l).1)/\Below w.heap.size w w':=by
 obtain ⟨g1,_,_,g4,g5⟩:=hy.flat Trm.flatT
 have HC:=Lh g4
 have HY:=Lh hy
 have HX:=Lh hx
 have hbi:∀ b∈a,I64 b.sort:=fun b hb=>by
  obtain ⟨_,_,_,_,k5⟩:=hx.flat Bnd.flatT
  have:=(k5 b hb).2.1
  exact I64.of_wf this
 have HS:=Lh (fun t=>sortF_i64 hbi t)
 have HK:=Lh (fun (j:Nat) (hj:j<l.length)=>hk _ (List.getElem_mem hj))
 have HG:=Lh hg
 have HW:=Lh (aI hwb hwc)
 have HWL:=Lh hwl
 clear hwc hwl
 obtain ⟨i0,hi,hz0,hz1,hz2⟩:=info_parts infoInt
 clear hx hy hg g4 g5 hbi hk
 go_enter Tryz.func150,Tryz.ntmps150
 go_wp2_with fail
 go_loopw [6,7,14] (fun o ee i wr=>∃ (j:Nat) (out:List Int),j<=l.length/\i=.int .i64 j/\ee=.int .i64 0/\Below w.heap.size w wr/\Hid (Onto1 wr w.heap.size (fun _=>False) 3 1 o (dints out))/\Hid (out.length=j/\AllI64 out/\sortsF a (some ws) l=sortsGo a (some ws) (l.drop j) j out)) (fun _ _ i _=>l.length - (intOf i).toNat)
 case atStart=>exact ⟨0,[],Nat.zero_le _,rfl,rfl,Below.refl _ _,Lh (Onto1.nil _ _ _ _ _ (fun _ h=>h.elim)),Lh ⟨rfl,(by intro z hz;cases hz),rfl⟩⟩
 case round =>
  obtain ⟨j,out,hj,rfl,rfl,hb,HO,HE⟩:=hrel
  obtain ⟨oa,ocap,ho⟩:=HO.out.form
  subst ho
  obtain ⟨n,hn⟩:∃ n,n=(dints out).length:=⟨_,rfl⟩
  rw [<- hn] at HO ⊢
  have HN:=Lh hn
  clear hn
  by_cases hlt:j<l.length
  ·obtain ⟨hxa,hbl⟩:=g1 (by omega)
   obtain ⟨q0,q1,q2⟩:=HC.out.three j hlt rfl
   have e0:=(hb.cell (p:=⟨y.b,y.o+j*3,none⟩) hbl).trans q0
   have e1:=(hb.cell (p:=⟨y.b,y.o+j*3+1,none⟩) hbl).trans q1
   have e2:=(hb.cell (p:=⟨y.b,y.o+j*3+2,none⟩) hbl).trans q2
   have hba:Below w.heap.size w (wr.alloc (.cells #[.int .i64 l[j].kind,.string ⟨l[j].name.toArray⟩,.int .i64 l[j].n] 92)):=hb.alloc hb.size _
   have HS1:=Lh (sort_any a x l[j] _ (HX.out.later hba hba.size) hl (HK.out j hlt) (HG.out.below hba))
   have HO1:=Lh (HO.out.below ((Below.refl _ _).alloc (Nat.le_refl _) (.cells #[.int .i64 l[j].kind,.string ⟨l[j].name.toArray⟩,.int .i64 l[j].n] 92)))
   obtain ⟨s1,hs1⟩:∃ s1,(sortF a l[j]).1=s1:=⟨_,rfl⟩
   obtain ⟨c1,hc1⟩:∃ c1,(sortF a l[j]).2=c1:=⟨_,rfl⟩
   have HI:=Lh (HS.out l[j])
   rw [hs1,hc1] at HS1 HI
   have HF:=Lh (aI hs1 hc1)
   have HBA:=Lh hba
   rw [hxa]
   clear q0 q1 q2 hba hs1 hc1
   generalize hte:l[j]=te at HS1 HBA HO1 e0 e1 e2
   obtain ⟨tk,tn,tv⟩:=te
   simp only at HS1 HBA HO1 e0 e1 e2
   clear hte
   have hc:(c1=0/\(c1==0)=true)∨(¬ c1=0/\(c1==0)=false):=by by_cases h:c1=0 <;> simp [h]
   go_wp2_with fail
   refine HS1.out.mono ?_
   rintro e w1 ⟨rfl,hb1⟩
   have HB1:=Lh (HBA.out.trans (hb1.mono HBA.out.size))
   have HO2:=Lh (HO1.out.below hb1)
   clear hb1
   rcases hc with ⟨hc1,hc2⟩ | ⟨hc1,hc2⟩
   ·subst hc1
    clear hc2
    obtain ⟨xw,hxw⟩:∃ xw,ws[j]?.getD 0=xw:=⟨_,rfl⟩
    have hwc:=(HB1.out.cell (p:=⟨wb,wo+j,none⟩) HW.out.1).trans (HW.out.2 j (by have:=HWL.out;omega))
    rw [show ws[j]'(by have:=HWL.out;omega)=xw from by rw [<- hxw,List.getElem?_eq_getElem (by have:=HWL.out;omega)];rfl] at hwc
    have hlw:(j:Int)<(ws.length:Int):=by have:=HWL.out;omega
    have HXW:=Lh hxw
    clear hxw
    have hd:(xw ≠ s1/\(xw != s1)=true)∨(xw=s1/\(xw != s1)=false):=by by_cases h:xw=s1 <;> simp [h]
    rcases hd with ⟨d1,d2⟩ | ⟨d1,d2⟩
    ·have HD:=Lh d1
     clear d1
     go_wp2_with fail
     go_ret2
     refine ⟨.slice none 0 0,by rw [HE.out.2.2,sortsGo_want hlt HF.out.2 HF.out.1 HXW.out HD.out];rfl,?_,HB1.out⟩
     rw [HE.out.2.2,sortsGo_want hlt HF.out.2 HF.out.1 HXW.out HD.out]
     exact Onto1.nil _ _ _ _ _ (fun _ h=>h.elim)
    ·obtain rfl:s1=xw:=d1.symm
     clear d2
     go_wp2_with (at_builtin;go_must (refine wpList_append_one rfl _ _ 30 rfl 3 i0 _ 1 8 Tryz.underlying30 hi hz0 hz1 hz2 rfl (by decide) (.slice oa n ocap) (dints out) (.int .i64 s1) [.int .i64 s1] 3 rfl rfl HO2.out (DsAt.flat1 (x:=.int .i64 s1) rfl HI.out.1.wf) (by have:=HB1.out.size;omega) rfl (by rw [dints_widths];simp) (by have:=HE.out.1;rw [dints_length];unfold maxLen;omega) (by have:=HE.out.1;rw [dints_length];omega) ?_);intro ao cap w5 hon hb5;have HON:=Lh (aI hon (HB1.out.trans hb5));clear hon hb5;rw [<- HN.out])
     refine ⟨⟨j+1,out++[s1],by omega,by go_num,rfl,HON.out.2,Lh ?_,Lh ⟨by have:=HE.out.1;simp;omega,fun z hz=>?_,by rw [HE.out.2.2,sortsGo_next hlt HF.out.2 HF.out.1 (by unfold badWant;simp only [HXW.out];simp)]⟩⟩,by simp [intOf];omega⟩
     ·rw [dints_append,HN.out];exact HON.out.1
     ·rcases List.mem_append.1 hz with hz | hz
      ·exact HE.out.2.1 z hz
      ·simp at hz;subst hz;exact HI.out.1
   ·have HCN:=Lh hc1
    clear hc1
    go_wp2_with fail
    go_ret2
    refine ⟨.slice none 0 0,by rw [HE.out.2.2,sortsGo_err hlt HF.out.2 HCN.out];rfl,?_,HB1.out⟩
    rw [HE.out.2.2,sortsGo_err hlt HF.out.2 HCN.out]
    exact Onto1.nil _ _ _ _ _ (fun _ h=>h.elim)
  ·go_wp2_with fail
   go_ret2
   have he:sortsF a (some ws) l=(out,0):=by rw [HE.out.2.2,List.drop_eq_nil_of_le (by omega),sortsGo]
   rw [he]
   exact ⟨_,rfl,HO.out,hb⟩
end Go.Proofs.YtncnnbmeacpboaaGreatDoor
/- types: walk at comparisons and atoms. -/
namespace Go.Chalk
open Go.RowKit
theorem sorts_two (a:List Bnd) (t u:Trm):sortsF a none [t,u]=if (sortF a t).2 ≠ 0 then ([],(sortF a t).2) else if (sortF a u).2 ≠ 0 then ([],(sortF a u).2) else ([(sortF a t).1,(sortF a u).1],0):=by
 unfold sortsF
 rw [sortsGo]
 split
 ·rfl
 ·rw [if_neg (by simp [badWant]),sortsGo]
  split
  ·rfl
  ·rw [if_neg (by simp [badWant]),sortsGo];rfl
theorem sorts_asks (a:List Bnd) (kind:Int) (t u:Trm):(sortsF a (some [(asksF kind).1,(asksF kind).2]) [t,u]).2=atomWalk a kind t u:=by
 unfold sortsF atomWalk
 rw [sortsGo]
 by_cases h1:(sortF a t).2 ≠ 0
 ·rw [if_pos h1,if_pos h1]
 ·rw [if_neg h1,if_neg h1]
  by_cases h2:(sortF a t).1 ≠ (asksF kind).1
  ·rw [if_pos (by unfold badWant;simp;exact fun h=>h2 h.symm),if_pos h2]
  ·rw [if_neg (by unfold badWant;simp at h2 ⊢;exact h2.symm),if_neg h2,sortsGo]
   by_cases h3:(sortF a u).2 ≠ 0
   ·rw [if_pos h3,if_pos h3]
   ·rw [if_neg h3,if_neg h3]
    by_cases h4:(sortF a u).1 ≠ (asksF kind).2
    ·rw [if_pos (by unfold badWant;simp;exact fun h=>h4 h.symm),if_pos h4]
    ·rw [if_neg (by unfold badWant;simp at h4 ⊢;exact h4.symm),if_neg h4,sortsGo]
theorem formed_atom2 {kind:Int} {name:Bs} {n:Int} {terms:List Trm} {binds:List Bnd} {l:List Frm} (h:formedF (.mk kind name n terms binds l)=true) (hk:atomK kind=true):∃ t u,terms=[t,u]/\(∀ x∈terms,1<=x.kind/\x.kind<=7):=by
 rw [formedF_mk,Bool.and_eq_true] at h
 have h2:=h.2
 split at h2
 ·cases h2
 ·rw [Bool.and_eq_true,decide_eq_true_eq] at h2
  match terms,h2.1 with
  | [t,u],_ =>
   refine ⟨t,u,rfl,fun x hx=>?_⟩
   have:=List.all_eq_true.1 h2.2 x hx
   rw [Bool.and_eq_true] at this
   have h3:=this.1
   unfold termedF at h3
   split at h3
   ·rename_i he;omega
   ·simp only [Bool.and_eq_true,decide_eq_true_eq] at h3;omega
theorem formed_plain {kind:Int} {name:Bs} {n:Int} {terms:List Trm} {binds:List Bnd} {l:List Frm} (h:formedF (.mk kind name n terms binds l)=true) (hk:atomK kind=false):terms=[]/\binds.length<=6:=by
 rw [formedF_mk,Bool.and_eq_true,partsOk_mk] at h
 have h1:=h.1
 simp only [hk,Bool.or_false,Bool.and_eq_true,List.isEmpty_iff] at h1
 refine ⟨h1.1.1.1.2,?_⟩
 have h2:=h.2
 split at h2
 ·cases h2
 ·rw [if_neg (by rw [hk];simp)] at h2
  cases hq:quantK kind
  ·rw [hq] at h1
   have:=h1.1.1.2
   simp at this
   subst this;simp
  ·rw [if_pos hq] at h2
   simp only [Bool.and_eq_true,decide_eq_true_eq] at h2
   exact h2.1.1.2
end Go.Chalk
namespace Go.Proofs.YtncnnbmeacpboaaGreatDoor
open Go.RowKit Go.Chalk
theorem clip_any (a:Option Addr) (n cap:Nat) (hn:n<=cap) (hc:cap<=maxLen) (w:World):Calls Tryz.prog 153 #[.slice a n cap] w fun e w'=>e=.returned (.slice a n n)/\w=w':=by
 go_enter Tryz.func153,Tryz.ntmps153
 go_wp2_with fail
 go_ret
 exact ⟨rfl,rfl⟩

theorem walk_atom (a:List Bnd) (x:SlA) (kind:Int) (name:Bs) (n:Int) (terms:List Trm) (binds:List Bnd) (fl:List Frm) (y:FrmA) (w:World) (hx:SlIn w (·<w.heap.size) (a.map Bnd.toD) x) (hy:SlIn w (·<w.heap.size) (terms.map Trm.toD) y.t) (hl:a.length<=2000000)
  (hf:formedF (.mk kind name n terms binds fl)=true) (hk:3<=kind/\kind<=8) (hg:GG w) :
  Calls Tryz.prog 115 #[.slice x.a a.length x.cap,ndV (.mk kind name n terms binds fl,y)] w fun e w'=>e=.returned (.int .i64 (walkF a (.mk kind name n terms binds fl)))/\Below w.heap.size w w':=by
 have hak:atomK kind=true:=by unfold atomK;simp;omega
 obtain ⟨t,u,ht,htk⟩:=formed_atom2 hf hak
 have hba:Below w.heap.size w (w.alloc (.cells (y.cells (.mk kind name n terms binds fl)).toArray 64)):=(Below.refl _ _).alloc (Nat.le_refl _) _
 obtain ⟨k,hkk⟩:∃ k:Nat,(k:Int)=kind:=⟨kind.toNat,by omega⟩
 have hwf:walkF a (.mk kind name n terms binds fl)=atomWalk a kind t u:=by rw [ht,walkF_two,if_neg (by omega)]
 subst ht
 have hss:=fun (W:World) (hW:Below w.heap.size w W)=>(by
  have hak2:=(hg.below hW).asks k (by omega)
  rw [hkk] at hak2
  have:=sorts_want a x [t,u] y.t [(asksF kind).1,(asksF kind).2] 0 (k*2) 2 W (hx.later hW hW.size) (hy.later hW hW.size) hl (by simp) htk rfl (World.block_lt_of_cell? _ _ hak2.1) (fun i hi=>by
   match i,hi with
   | 0,_=>exact hak2.1
   | 1,_=>exact hak2.2) (hg.below hW)
  rw [sorts_asks] at this
  exact this:Calls Tryz.prog 150 #[.slice y.t.a 2 y.t.cap,.func (.func 151) #[.slice x.a a.length x.cap] #[],.slice (some ⟨0,k*2,none⟩) 2 2] W fun e w'=>∃ v,e=.returned (.tuple #[v,.int .i64 (atomWalk a kind t u)])/\Onto1 w' W.heap.size (fun _=>False) 3 1 v (dints (sortsF a (some [(asksF kind).1,(asksF kind).2]) [t,u]).1)/\Below W.heap.size W w')
 rw [hwf]
 have HSS:=Lh hss
 have HB:=Lh hba
 have hmf:∀ (fn:Fn) (first cap:Array Value) (w:World),(Instr.makeFunc fn first cap).run Tryz.prog w=.ok (.func fn first cap) w:=fun _ _ _ _=>rfl
 clear hss hwf hx hy hg hba hak hf htk
 generalize atomWalk a kind t u=res at HSS ⊢
 have h9:(kind==9)=false:=by simp;omega
 have hk9:(kind:Int)<9:=by omega
 subst hkk
 simp only [ndV,FrmA.cells,SlA.val,Frm.kind,Frm.name,Frm.n,Frm.terms,Frm.binds,Frm.l,List.length_cons,List.length_nil,Nat.zero_add,Nat.reduceAdd] at *
 go_enter Tryz.func115,Tryz.ntmps115
 go_wp2_with fail
 have HSS1:=Lh (HSS.out _ HB.out.drew)
 go_region_with (go_at_call 150;refine HSS1.out.mono ?_;rintro e w' ⟨v,rfl,hon,hb⟩;have HW:=Lh hb;clear hb hon)
 all_goals
  go_wp2_with fail
  go_ret
  exact ⟨rfl,HB.out.drew.trans (HW.out.mono (by simp))⟩
end Go.Proofs.YtncnnbmeacpboaaGreatDoor
/- types: walk at comparisons. -/
namespace Go.Chalk
open Go.RowKit
def ordB (s:Int) (name:Bs):Bool:=([8,2,6]:List Int).contains s||name==[61]||name==[33,61]
theorem cmpWalk_ok {a:List Bnd} {name:Bs} {t u:Trm} (h1:(sortF a t).2=0) (h2:(sortF a u).2=0) {s1 s2:Int} (e1:(sortF a t).1=s1) (e2:(sortF a u).1=s2):cmpWalk a name t u=if (s1 != s2||!(ordB s1 name))=true then 80 else 0:=by
 unfold cmpWalk ordB
 rw [if_neg (by rw [h1];simp),if_neg (by rw [h2];simp),e1,e2]
 congr 1
 simp
 constructor
 ·rintro (h | h)
  ·exact .inl h
  ·exact .inr ⟨⟨⟨h.1,h.2.1,h.2.2.1⟩,h.2.2.2.1⟩,h.2.2.2.2⟩
 ·rintro (h | ⟨⟨⟨a,b,c⟩,d⟩,e⟩)
  ·exact .inl h
  ·exact .inr ⟨a,b,c,d,e⟩
end Go.Chalk
namespace Go.Proofs.YtncnnbmeacpboaaGreatDoor
open Go.RowKit Go.Chalk
theorem walk_cmp (a:List Bnd) (x:SlA) (name:Bs) (n:Int) (terms:List Trm) (binds:List Bnd) (fl:List Frm) (y:FrmA) (w:World) (hx:SlIn w (·<w.heap.size) (a.map Bnd.toD) x) (hy:SlIn w (·<w.heap.size) (terms.map Trm.toD) y.t) (hl:a.length<=2000000)
  (hf:formedF (.mk 9 name n terms binds fl)=true) (hg:GG w) :
  Calls Tryz.prog 115 #[.slice x.a a.length x.cap,ndV (.mk 9 name n terms binds fl,y)] w fun e w'=>e=.returned (.int .i64 (walkF a (.mk 9 name n terms binds fl)))/\Below w.heap.size w w':=by
 obtain ⟨t,u,ht,htk⟩:=formed_atom2 hf (by decide)
 have hba:Below w.heap.size w (w.alloc (.cells (y.cells (.mk 9 name n terms binds fl)).toArray 64)):=(Below.refl _ _).alloc (Nat.le_refl _) _
 have hwf:walkF a (.mk 9 name n terms binds fl)=cmpWalk a name t u:=by rw [ht,walkF_two,if_pos rfl]
 subst ht
 have hss:=sorts_nil a x [t,u] y.t _ (hx.later hba hba.size) (hy.later hba hba.size) hl (by simp) htk (hg.below hba)
 rw [sorts_two] at hss
 obtain ⟨s1,hs1⟩:∃ s1,(sortF a t).1=s1:=⟨_,rfl⟩
 obtain ⟨s2,hs2⟩:∃ s2,(sortF a u).1=s2:=⟨_,rfl⟩
 obtain ⟨c1,hc1⟩:∃ c1,(sortF a t).2=c1:=⟨_,rfl⟩
 obtain ⟨c2,hc2⟩:∃ c2,(sortF a u).2=c2:=⟨_,rfl⟩
 rw [hs1,hs2,hc1,hc2] at hss
 have HB:=Lh hba
 have hmf:∀ (fn:Fn) (first cap:Array Value) (w:World),(Instr.makeFunc fn first cap).run Tryz.prog w=.ok (.func fn first cap) w:=fun _ _ _ _=>rfl
 rw [hwf]
 have HG:=Lh hg
 clear hwf hx hy hg hf htk
 simp only [ndV,FrmA.cells,SlA.val,Frm.kind,Frm.name,Frm.n,Frm.terms,Frm.binds,Frm.l,List.length_cons,List.length_nil,Nat.zero_add,Nat.reduceAdd] at hss hba HB ⊢
 by_cases h1:c1 ≠ 0
 ·rw [if_pos h1] at hss
  have he:cmpWalk a name t u=c1:=by unfold cmpWalk;rw [hc1,if_pos h1]
  rw [he]
  have HSS:=Lh hss
  have h1':(c1 != 0)=true:=by simpa using h1
  have HD:=Lh h1
  clear hss hba he hs1 hs2 hc1 hc2 h1
  go_enter Tryz.func115,Tryz.ntmps115
  go_wp2_with fail
  refine HSS.out.mono ?_
  rintro e w1 ⟨v,rfl,hon,hb⟩
  have HW:=Lh hb
  clear hb hon
  go_wp2_with fail
  go_ret
  exact ⟨rfl,HB.out.trans (HW.out.mono HB.out.size)⟩
 ·rw [if_neg h1] at hss
  have h1z:c1=0:=by omega
  by_cases h2:c2 ≠ 0
  ·rw [if_pos h2] at hss
   have he:cmpWalk a name t u=c2:=by unfold cmpWalk;rw [hc1,if_neg h1,hc2,if_pos h2]
   rw [he]
   have HSS:=Lh hss
   have h2':(c2 != 0)=true:=by simpa using h2
   clear hss hba he hs1 hs2 hc1 hc2 h1 h1z h2
   go_enter Tryz.func115,Tryz.ntmps115
   go_wp2_with fail
   refine HSS.out.mono ?_
   rintro e w1 ⟨v,rfl,hon,hb⟩
   have HW:=Lh hb
   clear hb hon
   go_wp2_with fail
   go_ret
   exact ⟨rfl,HB.out.trans (HW.out.mono HB.out.size)⟩
  ·rw [if_neg h2] at hss
   have he:=cmpWalk_ok (name:=name) (hc1.trans h1z) (hc2.trans (by omega)) hs1 hs2
   rw [he]
   have HSS:=Lh hss
   obtain ⟨od,hod⟩:∃ od,od=ordB s1 name:=⟨_,rfl⟩
   rw [<- hod]
   have HO:=Lh hod
   obtain ⟨rv,hrv⟩:∃ rv,rv=(if (s1 != s2||!od)=true then (80:Int) else 0):=⟨_,rfl⟩
   rw [<- hrv]
   have HRV:=Lh hrv
   clear hrv
   clear hss hba he hs1 hs2 hc1 hc2 h1 h1z h2 hod
   go_enter Tryz.func115,Tryz.ntmps115
   go_wp2_with fail
   refine HSS.out.mono ?_
   rintro e w1 ⟨v,rfl,hon,hb⟩
   have HW:=Lh (HB.out.trans (hb.mono HB.out.size))
   obtain ⟨x0,rfl,hx0⟩:=hon.sl (by rw [dints_widths];simp)
   obtain ⟨k1,_,_,_,k5⟩:=hx0.ints
   obtain ⟨ka,_⟩:=k1 (by simp)
   have q0:=k5 0 (by simp)
   have q1:=k5 1 (by simp)
   simp only [List.getElem_cons_zero,List.getElem_cons_succ,Nat.add_zero] at q0 q1
   simp only [dints_length,List.length_cons,List.length_nil,Nat.zero_add,Nat.reduceAdd,SlA.val]
   rw [ka]
   have hbx:w1.heap[w.heap.size]?=some (.cells #[.int .i64 9,.string ⟨name.toArray⟩,.int .i64 n,.slice y.t.a 2 y.t.cap,.slice y.b.a binds.length y.b.cap,.slice y.l.a fl.length y.l.cap] 64 (0,0)):=boxed (B:=w.heap.size+1) (by simpa using hb) (by omega)
   have b1:w1.cell? ⟨w.heap.size,1,none⟩=some (.string ⟨name.toArray⟩):=cH hbx rfl
   clear hb hon hx0 k1 k5 ka hbx
   have hc:=contains_ints [8,2,6] ⟨some ⟨w1.heap.size,0,none⟩,w1.heap.size,0,3⟩ s1 (w1.alloc (.cells #[.int .i64 8,.int .i64 2,.int .i64 6] 3))
    (SlIn.lit (cs:=[.int .i64 8,.int .i64 2,.int .i64 6]) (boxed (B:=w1.heap.size+1) (Below.refl _ _) (by omega)) (DsAt.ints (xs:=[8,2,6]) (fun z hz=>by simp at hz;omega)) (by simp) (Nat.le_refl _) (by decide)) (by simp)
   have hoo:=HO.out
   unfold ordB at hoo
   clear HO
   generalize ([8,2,6]:List Int).contains s1=c0 at hc hoo
   have HC:=Lh hc
   have HBB:=Lh (HW.out.alloc HW.out.size (.cells #[.int .i64 8,.int .i64 2,.int .i64 6] 3))
   have b1':=cell_alloc (x:=.cells #[.int .i64 8,.int .i64 2,.int .i64 6] 3) b1
   have hcase:(c0=true/\od=true)∨(c0=false/\name=[61]/\od=true)∨(c0=false/\name=[33,61]/\od=true)∨(c0=false/\(name==[61])=false/\(name==[33,61])=false/\od=false):=by
    cases c0
    ·by_cases h1:name=[61]
     ·exact .inr (.inl ⟨rfl,h1,by rw [hoo,h1];rfl⟩)
     ·by_cases h2:name=[33,61]
      ·exact .inr (.inr (.inl ⟨rfl,h2,by rw [hoo,h2];rfl⟩))
      ·have e1:(name==[61])=false:=by simpa using h1
       have e2:(name==[33,61])=false:=by simpa using h2
       exact .inr (.inr (.inr ⟨rfl,e1,e2,by rw [hoo,e1,e2];rfl⟩))
    ·exact .inl ⟨rfl,by rw [hoo];rfl⟩
   have hd:(s1 != s2)=true∨(s1 != s2)=false:=by cases (s1 != s2) <;> simp
   clear hc hoo
   rcases hcase with ⟨rfl,rfl⟩ | ⟨rfl,rfl,rfl⟩ | ⟨rfl,rfl,rfl⟩ | ⟨rfl,hn1,hn2,rfl⟩
   all_goals
    rcases hd with hd | hd
    all_goals
     have HDD:=Lh hd
     try (obtain rfl:=int_eq hd;clear hd)
     go_wp2_with fail
     refine HC.out.mono ?_
     rintro e w2 ⟨rfl,rfl⟩
     go_wp2_with fail
     go_quiet (fail)
     go_wp2_with fail
     go_ret
     exact ⟨ret_int (by rw [HRV.out,HDD.out];rfl),HBB.out.trans ⟨rfl,rfl,rfl,Nat.le_refl _,fun _ _=>rfl⟩⟩
end Go.Proofs.YtncnnbmeacpboaaGreatDoor
/- types: walk. -/
namespace Go.Chalk
open Go.RowKit
theorem bindAll_some {bs:List Bnd} {b:Bnd} {r l:List Bnd} (hl:l=b :: r) {i:Nat} (h:findB bs b.name=some i):bindAll bs l=none:=by
 subst hl;rw [bindAll,if_pos (by rw [h];rfl)]
theorem bindAll_none {bs:List Bnd} {b:Bnd} {r l:List Bnd} (hl:l=b :: r) (h:findB bs b.name=none):bindAll bs l=bindAll (bs++[b]) r:=by
 subst hl;rw [bindAll,if_neg (by rw [h];simp)]
theorem walkL_bad {bs:List Bnd} {f:Frm} {r l:List Frm} (hl:l=f :: r) {c:Int} (h:walkF bs f=c) (hc:c ≠ 0):walkL bs l=c:=by
 subst hl;rw [walkL,h,if_pos hc]
theorem walkL_good {bs:List Bnd} {f:Frm} {r l:List Frm} (hl:l=f :: r) (h:walkF bs f=0):walkL bs l=walkL bs r:=by
 subst hl;rw [walkL,h,if_neg (by simp)]
theorem nodes_child {kind:Int} {name:Bs} {n:Int} {terms:List Trm} {binds:List Bnd} {fl:List Frm} (h:(nodesF (.mk kind name n terms binds fl)).all formedF=true) (j:Nat) (hj:j<fl.length):(nodesF fl[j]).all formedF=true:=by
 rw [nodesF,List.all_cons,Bool.and_eq_true] at h
 have:∀ (l:List Frm),(nodesL l).all formedF=true->∀ g∈l,(nodesF g).all formedF=true:=by
  intro l
  induction l with
  | nil=>intro _ g hg;cases hg
  | cons x r ih =>
   intro hl g hg
   rw [nodesL,List.all_append,Bool.and_eq_true] at hl
   rcases List.mem_cons.1 hg with rfl | hg
   ·exact hl.1
   ·exact ih hl.2 g hg
 exact this fl h.2 _ (List.getElem_mem hj)
end Go.Chalk
namespace Go.Proofs.YtncnnbmeacpboaaGreatDoor
open Go.RowKit Go.Chalk
theorem walk_plain (kind:Int) (name:Bs) (n:Int) (binds:List Bnd) (fl:List Frm)
  (ih:∀ (j:Nat) (hj:j<fl.length) (a:List Bnd) (x:SlA) (y:FrmA) (w:World),SlIn w (·<w.heap.size) (a.map Bnd.toD) x->FrmIn w (·<w.heap.size) fl[j] y->a.length+6*fl[j].depth<=1900000->GG w ->
   Calls Tryz.prog 115 #[.slice x.a a.length x.cap,ndV (fl[j],y)] w fun e w'=>e=.returned (.int .i64 (walkF a fl[j]))/\Below w.heap.size w w')
  (a:List Bnd) (x:SlA) (y:FrmA) (w:World) (hx:SlIn w (·<w.heap.size) (a.map Bnd.toD) x) (hy:FrmIn w (·<w.heap.size) (.mk kind name n [] binds fl) y) (hl:a.length+6*(fdepths fl+1)<=1900000) (hb6:binds.length<=6) (hfl:fl.length<=2000000) (h9:(kind==9)=false) (hg:GG w) :
  Calls Tryz.prog 115 #[.slice x.a a.length x.cap,ndV (.mk kind name n [] binds fl,y)] w fun e w'=>e=.returned (.int .i64 (walkF a (.mk kind name n [] binds fl)))/\Below w.heap.size w w':=by
 have hba:Below w.heap.size w (w.alloc (.cells (y.cells (.mk kind name n [] binds fl)).toArray 64)):=(Below.refl _ _).alloc (Nat.le_refl _) _
 have hcap:a.length<=x.cap:=by have:=hx.le;simpa using this
 have hcm:=hx.max
 obtain ⟨g1,_,_,g4,g5⟩:=hy.binds.flat Bnd.flatT
 have hnil:x.a=none->a.map Bnd.toD=[]:=fun hn=>by
  cases ha:a with
  | nil=>rfl
  | cons b r=>have:=(hx.at_ (by rw [ha];simp)).1;rw [this] at hn;cases hn
 have hsl:SlIn w (·<w.heap.size) (a.map Bnd.toD) ⟨x.a,x.b,x.o,a.length⟩:=⟨hx.at_,by simp,by show a.length<=maxLen;omega,hx.row⟩
 have hon:Onto1 (w.alloc (.cells (y.cells (.mk kind name n [] binds fl)).toArray 64)) (w.heap.size+1) (fun _=>False) 94 2 (.slice x.a a.length a.length) (a.map Bnd.toD) :=
  .inl ⟨⟨x.a,x.b,x.o,a.length⟩,by simp,by simp,(hsl.agree (agree_of_below hba)).mono (fun k hk=>Nat.lt_succ_of_lt hk),hnil,flats_map Bnd.flatT a,by simp,fun _ h=>h.elim⟩
 have HC:=Lh g4
 have HFN:=Lh g5
 have HFI:Hid (∀ (j:Nat) (hj:j<fl.length),∃ y1:FrmA,FrmIn w (·<w.heap.size) fl[j] y1/\CellsAt w y.l.b (y.l.o+j*6) (y1.cells fl[j])):=Lh (fun (j:Nat) (hj:j<fl.length)=>hy.l.frm j hj)
 have HFS:=Lh hy.l.at_
 have HIH:=Lh ih
 have HG:=Lh hg
 have HW:=Lh (walkF_nil a kind name n binds fl)
 have HB:=Lh hba
 have HON:=Lh hon
 have HG1:=Lh g1
 obtain ⟨i0,hi,hz0,hz1,hz2⟩:=info_parts infoBnd
 clear hx hy g1 g4 g5 ih hg hba hon hnil hsl
 simp only [ndV,FrmA.cells,SlA.val,Frm.kind,Frm.name,Frm.n,Frm.terms,Frm.binds,Frm.l,List.length_nil] at HC HFN HG1 HFS HB HON ⊢
 generalize walkF a (.mk kind name n [] binds fl)=res at HW ⊢
 go_enter Tryz.func115,Tryz.ntmps115
 go_wp2_with (go_at_call 153;refine (clip_any _ _ _ hcap hcm _).mono ?_;rintro e w' ⟨rfl,rfl⟩)
 go_loopw [10,80] (fun v i wr=>∃ (j:Nat) (bs:List Bnd),j<=binds.length/\i=.int .i64 j/\Below w.heap.size w wr/\Hid (wr.heap[w.heap.size]?=some (.cells #[.int .i64 kind,.string ⟨name.toArray⟩,.int .i64 n,.slice y.t.a 0 y.t.cap,.slice y.b.a binds.length y.b.cap,.slice y.l.a fl.length y.l.cap] 64 (0,0)))/\Hid (Onto1 wr (w.heap.size+1) (fun _=>False) 94 2 v (bs.map Bnd.toD))/\Hid (bs.length=a.length+j/\bindAll a binds=bindAll bs (binds.drop j))) (fun _ i _=>binds.length - (intOf i).toNat)
 case atStart=>exact ⟨0,a,Nat.zero_le _,rfl,HB.out,Lh (boxed (B:=w.heap.size+1) (Below.refl _ _) (by omega)),HON,Lh ⟨rfl,rfl⟩⟩
 case round =>
  obtain ⟨j,bs,hj,rfl,hb,HBX,HO,HE⟩:=hrel
  clear HON
  obtain ⟨x1,hv,hx1⟩:=HO.out.sl (by rw [widths_map Bnd.flatT,List.length_map])
  rw [List.length_map] at hv
  subst hv
  have hbl:bs.length<=1900000:=by have:=HE.out.1;omega
  have HX1:=Lh hx1
  clear hx1
  by_cases hlt:j<binds.length
  ·obtain ⟨hxa,hbl2⟩:=HG1.out (by omega)
   obtain ⟨q0,q1⟩:=HC.out.two j hlt rfl
   have e0:=(hb.cell (p:=⟨y.b.b,y.b.o+j*2,none⟩) hbl2).trans q0
   have e1:=(hb.cell (p:=⟨y.b.b,y.b.o+j*2+1,none⟩) hbl2).trans q1
   have hba:Below w.heap.size w (wr.alloc (.cells #[.string ⟨binds[j].name.toArray⟩,.int .i64 binds[j].sort] 94)):=hb.alloc hb.size _
   have hbr:Below wr.heap.size wr (wr.alloc (.cells #[.string ⟨binds[j].name.toArray⟩,.int .i64 binds[j].sort] 94)):=(Below.refl _ _).alloc (Nat.le_refl _) _
   have HFD:=Lh (find_any bs x1 binds[j].name _ (HX1.out.later hbr hbr.size) (by omega))
   have HO1:=Lh (HO.out.below hbr)
   have HFINE:=Lh (HFN.out _ (List.getElem_mem hlt))
   have hdrop:binds.drop j=binds[j] :: binds.drop (j+1):=List.drop_eq_getElem_cons hlt
   have HDR:=Lh hdrop
   have HBA:=Lh hba
   rw [hxa] at HBX ⊢
   clear q0 q1 hba hbr hdrop
   generalize hbe:binds[j]=be at HFD HO1 HFINE HDR HBA e0 e1
   clear hbe
   obtain ⟨nm,so⟩:=be
   simp only at HFD HO1 HBA e0 e1
   cases hf:findB bs nm with
   | some i =>
    have hfi:findI bs nm=i:=by unfold findI;rw [hf]
    rw [hfi] at HFD
    have HR:Hid (res=82):=Lh (by rw [HW.out,HE.out.2,bindAll_some HDR.out hf])
    clear hf hfi
    go_wp2_with fail
    refine HFD.out.mono ?_
    rintro e w1 ⟨rfl,hb1⟩
    have HB1:=Lh (HBA.out.trans (hb1.mono HBA.out.size))
    clear hb1
    go_wp2_with fail
    go_ret
    exact ⟨ret_int HR.out.symm,HB1.out⟩
   | none =>
    have hfi:findI bs nm = -1:=by unfold findI;rw [hf]
    rw [hfi] at HFD
    have HR:=Lh (HE.out.2.trans (bindAll_none HDR.out hf))
    clear hf hfi
    go_wp2_with fail
    refine HFD.out.mono ?_
    rintro e w1 ⟨rfl,hb1⟩
    have HB1:=Lh (HBA.out.trans (hb1.mono HBA.out.size))
    have q0:w1.cell? ⟨wr.heap.size,0,none⟩=some (.string ⟨nm.toArray⟩):=cH (boxed (B:=wr.heap.size+1) (by simpa using hb1) (by omega)) rfl
    have q1:w1.cell? ⟨wr.heap.size,1,none⟩=some (.int .i64 so):=cH (boxed (B:=wr.heap.size+1) (by simpa using hb1) (by omega)) rfl
    have HO2:=Lh (HO1.out.below hb1)
    have hlw:=(gS HBX.out).1
    have HBX1:=Lh ((hb1.block w.heap.size (by simp;omega)).trans ((Below.heap_alloc _ _ _ hlw).trans HBX.out))
    clear hb1
    go_wp2_with (at_builtin;go_must (refine wpList_append_one rfl _ _ 179 rfl 94 i0 _ 2 24 Tryz.underlying179 hi hz0 hz1 hz2 rfl (by decide) (.slice x1.a bs.length x1.cap) (bs.map Bnd.toD) (Bnd.toD ⟨nm,so⟩) [.string ⟨nm.toArray⟩,.int .i64 so] 94 rfl rfl HO2.out (DsAt.flat1 (Bnd.flatT.flat _) HFINE.out) (by have:=(gS HBX1.out).1;omega) rfl (by rw [widths_map Bnd.flatT,List.length_map]) (by rw [List.length_map];unfold maxLen;omega) (by rw [List.length_map];omega) ?_);intro ao cap w5 hon hb5;have HON:=Lh (aI hon (aI (HB1.out.trans (hb5.mono (by omega))) ((hb5.block _ (by omega)).trans HBX1.out)));clear hon hb5)
    refine ⟨⟨j+1,bs++[⟨nm,so⟩],by omega,by go_num,HON.out.2.1,Lh HON.out.2.2,Lh ?_,Lh ⟨by have:=HE.out.1;simp;omega,HR.out⟩⟩,by simp [intOf];omega⟩
    have:=HON.out.1
    rw [List.length_map] at this
    simpa using this
  ·have hjb:j=binds.length:=by omega
   obtain ⟨wo,rfl⟩:∃ wo,wo=wr:=⟨_,rfl⟩
   have HR:Hid (res=walkL bs fl):=Lh (by rw [HW.out,HE.out.2,hjb,List.drop_length,bindAll])
   have hdep:bs.length+6*fdepths fl<=1900000:=by have:=HE.out.1;omega
   have HBR:=Lh hb
   have HXW:=Lh (fun (W:World) (hW:Below wo.heap.size wo W)=>HX1.out.later hW hW.size)
   have b5:wo.cell? ⟨w.heap.size,5,none⟩=some (.slice y.l.a fl.length y.l.cap):=cH HBX.out rfl
   clear HC HFN HG1 HO HE HB HBX hjb
   go_wp2_with fail
   go_loopw [97] (fun i wr=>∃ j2:Nat,j2<=fl.length/\i=.int .i64 j2/\Below wo.heap.size wo wr/\Hid (walkL bs fl=walkL bs (fl.drop j2))) (fun i _=>fl.length - (intOf i).toNat)
   case atStart=>exact ⟨0,Nat.zero_le _,rfl,Below.refl _ _,Lh rfl⟩
   case round =>
    obtain ⟨j2,hj2,rfl,hb2,HE2⟩:=hrel
    by_cases hlt2:j2<fl.length
    ·obtain ⟨y1,hy1,hy2⟩:=HFI.out j2 hlt2
     obtain ⟨hxa,hFb⟩:=HFS.out (by rw [List.length_map];omega)
     have hbw:Below w.heap.size w wr:=HBR.out.trans (hb2.mono HBR.out.size)
     obtain ⟨e0,e1,e2,e3,e4,e5⟩:=(hy2.agree (agree_of_below hbw) hFb).six
     have hbr:Below wo.heap.size wo (wr.alloc (.cells (y1.cells fl[j2]).toArray 64)):=hb2.alloc hb2.size _
     have hbw2:Below w.heap.size w (wr.alloc (.cells (y1.cells fl[j2]).toArray 64)):=hbw.alloc hbw.size _
     have hdp:=depth_le_fdepths fl j2 hlt2
     have HCL:=Lh (HIH.out j2 hlt2 bs x1 y1 (wr.alloc (.cells (y1.cells fl[j2]).toArray 64)) (HXW.out _ hbr) (hy1.later hbw2 hbw2.size) (by omega) (HG.out.below hbw2))
     have HBR2:=Lh hbr
     have hdrop:fl.drop j2=fl[j2] :: fl.drop (j2+1):=List.drop_eq_getElem_cons hlt2
     have HDR:=Lh hdrop
     obtain ⟨c,hc⟩:∃ c,walkF bs fl[j2]=c:=⟨_,rfl⟩
     rw [hc] at HCL
     have HCC:=Lh hc
     rw [hxa]
     clear hy1 hy2 hFb hbw hbr hbw2 hdrop hc hdp
     generalize fl[j2]=fe at HCL HBR2 HDR HCC e0 e1 e2 e3 e4 e5
     obtain ⟨kind1,name1,n1,terms1,binds1,fl1⟩:=fe
     simp only [ndV,FrmA.cells,SlA.val,Frm.kind,Frm.name,Frm.n,Frm.terms,Frm.binds,Frm.l] at HCL HBR2 e0 e1 e2 e3 e4 e5
     have hcd:(c ≠ 0/\(c != 0)=true)∨(c=0/\(c != 0)=false):=by by_cases h:c=0 <;> simp [h]
     rcases hcd with ⟨d1,d2⟩ | ⟨d1,d2⟩
     ·have HD:=Lh (HR.out.trans (HE2.out.trans (walkL_bad HDR.out HCC.out d1)))
      clear d1
      go_wp2_with fail
      refine HCL.out.mono ?_
      rintro e w1 ⟨rfl,hb1⟩
      have HB1:=Lh (HBR.out.trans ((HBR2.out.trans (hb1.mono HBR2.out.size)).mono HBR.out.size))
      clear hb1
      go_wp2_with fail
      go_ret
      exact ⟨ret_int HD.out.symm,HB1.out⟩
     ·subst d1
      clear d2
      have HD:=Lh (HE2.out.trans (walkL_good HDR.out HCC.out))
      go_wp2_with fail
      refine HCL.out.mono ?_
      rintro e w1 ⟨rfl,hb1⟩
      have HB1:=Lh (HBR2.out.trans (hb1.mono HBR2.out.size))
      clear hb1
      go_wp2_with fail
      exact ⟨⟨j2+1,by omega,by go_num,HB1.out,HD⟩,by simp [intOf];omega⟩
    ·go_wp2_with fail
     go_ret
     have hjl:j2=fl.length:=by omega
     exact ⟨ret_int (by rw [HR.out,HE2.out,hjl,List.drop_length,walkL]),HBR.out.trans (hb2.mono HBR.out.size)⟩

theorem awalk_any (m:Nat):∀ (f:Frm) (a:List Bnd) (x:SlA) (y:FrmA) (w:World),f.size<=m->f.size<=2000000->(nodesF f).all formedF=true->SlIn w (·<w.heap.size) (a.map Bnd.toD) x->FrmIn w (·<w.heap.size) f y->a.length+6*f.depth<=1900000->GG w ->
  Calls Tryz.prog 115 #[.slice x.a a.length x.cap,ndV (f,y)] w fun e w'=>e=.returned (.int .i64 (walkF a f))/\Below w.heap.size w w':=by
 induction m with
 | zero=>intro f _ _ _ _ h;have:=f.size_pos;omega
 | succ m ih =>
  rintro ⟨kind,name,n,terms,binds,fl⟩ a x y w hm hs hf hx hy hd hg
  have hf1:formedF (.mk kind name n terms binds fl)=true:=by
   rw [nodesF,List.all_cons,Bool.and_eq_true] at hf;exact hf.1
  rw [Frm.size] at hm hs
  rw [Frm.depth] at hd
  have hll:=length_le_fsizes fl
  cases hk:atomK kind
  ·obtain ⟨ht,hb6⟩:=formed_plain hf1 hk
   subst ht
   have h9:(kind==9)=false:=by
    unfold atomK at hk
    simp;intro h;subst h;simp at hk
   exact walk_plain kind name n binds fl (fun j hj a' x' y' w' h1 h2 h3 h4=>ih fl[j] a' x' y' w' (by have:=size_le_fsizes fl j hj;omega) (by have:=size_le_fsizes fl j hj;omega) (nodes_child hf j hj) h1 h2 h3 h4) a x y w hx hy hd hb6 (by omega) h9 hg
  ·by_cases h9:kind=9
   ·subst h9
    exact walk_cmp a x name n terms binds fl y w hx hy.terms (by omega) hf1 hg
   ·exact walk_atom a x kind name n terms binds fl y w hx hy.terms (by omega) hf1 (by unfold atomK at hk;simp at hk;omega) hg
end Go.Proofs.YtncnnbmeacpboaaGreatDoor
/- types: Term, Form. -/
namespace Go.Chalk
open Go.RowKit
theorem SlIn.lt {w:World} {xs:List D} {x:SlA} {B C:Nat} (h:SlIn w (·<B) xs x) (hC:B<=C):SlIn w (·<C) xs x:=h.mono (fun _ hk=>Nat.lt_of_lt_of_le hk hC)
structure TrmFit (t:Trm):Prop where
 kind:I64 t.kind
 name:t.name.length<=4000000
 n:I64 t.n
theorem Trm.fine {t:Trm} (h:TrmFit t):t.toD.fine:=⟨h.kind.wf,by rw [D.fine,bs_size];have:=h.name;unfold maxLen;omega,h.n.wf,trivial⟩
end Go.Chalk
namespace Go.Proofs.YtncnnbmeacpboaaGreatDoor
open Go.RowKit Go.Chalk
end Go.Proofs.YtncnnbmeacpboaaGreatDoor
/- types: Rule. -/
namespace Go.Chalk
open Go.RowKit
end Go.Chalk
namespace Go.Proofs.YtncnnbmeacpboaaGreatDoor
open Go.RowKit Go.Chalk
structure RulFit (r:Rul):Prop where
 name:r.name.length<=4000000
 len:r.each.length<=1500000
 each:∀ b∈r.each,b.name.length<=4000000
 body:FrmFit r.body

theorem trule_any (r:Rul) (y:RulA) (w:World) (hy:RulIn w (·<w.heap.size) r y) (hf:RulFit r) (hg:GG w) :
  Calls Tryz.prog 72 #[.agg (y.cells r).toArray] w fun e w'=>e=.returned (.int .i64 (typRule r))/\Below w.heap.size w w':=by
 have hba:Below w.heap.size w (w.alloc (.cells (y.cells r).toArray 66)):=(Below.refl _ _).alloc (Nat.le_refl _) _
 have hbx:(w.alloc (.cells (y.cells r).toArray 66)).heap[w.heap.size]?=some (.cells (y.cells r).toArray 66 (0,0)):=boxed (B:=w.heap.size+1) (Below.refl _ _) (by omega)
 have HFM:=Lh (fun (W:World) (hW:Below w.heap.size w W)=>tformed_any ⟨r.name,1⟩ W ⟨hf.name,(show I64 1 from i64_small (by decide) (by decide))⟩ (hg.below hW))
 have HEB:=Lh (fun (W:World) (hW:Below w.heap.size w W)=>each_bad r.each y.each W (hy.each.later hW hW.size) (by have:=hf.len;omega) hf.each (hg.below hW))
 have HM:=Lh (fun (W:World) (hW:Below w.heap.size w W)=>amay_any r.each y.each W (hy.each.later hW hW.size) (by have:=hf.len;omega) hf.each (hg.below hW))
 have HCK:=Lh (fun (W:World) (hW:Below w.heap.size w W)=>fcheck_any r.body y.body W (hy.body.later hW hW.size) hf.body (hg.below hW))
 have HWK:=Lh (fun (W:World) (hW:Below w.heap.size w W) (h:frmCheck r.body=0)=>awalk_any r.body.size r.body r.each y.each y.body W (Nat.le_refl _) hf.body.size (frmCheck_zero.1 h).1 (hy.each.later hW hW.size) (hy.body.later hW hW.size) (by have:=(frmCheck_zero.1 h).2.2;have:=hf.len;omega) (hg.below hW))
 have HR:Hid (typRule r=if bndOk ⟨r.name,1⟩=false∨r.weight<(if r.hard then 0 else 1)∨(if r.hard then 0 else 1000)<r.weight∨6<r.each.length∨r.each.all bndOk=false then 1
  else if frmCheck r.body ≠ 0 then frmCheck r.body else if mayA r.each=false then 82 else walkF r.each r.body):=Lh rfl
 have HB:=Lh (aI hba hbx)
 clear hy hba hbx hg hf
 generalize typRule r=res at HR ⊢
 obtain ⟨name,hard,weight,each,⟨kind,fname,n,terms,binds,fl⟩⟩:=r
 obtain ⟨ye,yb⟩:=y
 simp only at HFM HEB HM HCK HWK HR
 generalize bndOk ⟨name,1⟩=bo at HFM HR
 generalize each.all bndOk=eb at HEB HR
 generalize mayA each=my at HM HR
 generalize frmCheck (.mk kind fname n terms binds fl)=fc at HCK HWK HR
 generalize walkF each (.mk kind fname n terms binds fl)=wk at HWK HR
 simp only [ndV,RulA.cells,FrmA.cells,SlA.val,Frm.kind,Frm.name,Frm.n,Frm.terms,Frm.binds,Frm.l] at HB HCK HWK HM HEB HFM ⊢
 cases hard
 ·-- hard=false
  have hw1:((weight:Int)<1/\weight<1)∨(decide ((weight:Int)<1)=false/\¬ weight<1):=by
   by_cases h:weight<1
   ·exact .inl ⟨h,h⟩
   ·exact .inr ⟨decide_eq_false h,h⟩
  have hw2:((1000:Int)<weight/\1000<weight)∨(decide ((1000:Int)<weight)=false/\¬ 1000<weight):=by
   by_cases h:1000<weight
   ·exact .inl ⟨h,h⟩
   ·exact .inr ⟨decide_eq_false h,h⟩
  have hw3:((6:Int)<(each.length:Int)/\6<each.length)∨(decide ((6:Int)<(each.length:Int))=false/\¬ 6<each.length):=by
   by_cases h:6<each.length
   ·exact .inl ⟨by omega,h⟩
   ·exact .inr ⟨decide_eq_false (by omega),h⟩
  have HR2:Hid (res=if bo=false∨weight<1∨1000<weight∨6<each.length∨eb=false then 1 else if fc ≠ 0 then fc else if my=false then 82 else wk):=Lh (by rw [HR.out];rfl)
  clear HR
  go_enter Tryz.func72,Tryz.ntmps72
  go_wp2_with fail
  refine (HFM.out _ HB.out.1).mono ?_
  rintro e w1 ⟨rfl,hb1⟩
  have hbx1:=(hb1.block w.heap.size (by simp)).trans HB.out.2
  have HB1:=Lh (aI (HB.out.1.trans (hb1.mono HB.out.1.size)) hbx1)
  clear hb1
  cases bo
  ·clear hbx1
   go_wp2_with fail
   go_ret
   exact ⟨ret_int (by rw [HR2.out,if_pos (.inl (by first | rfl | trivial))]),HB1.out.1⟩
  ·have b2:w1.cell? ⟨w.heap.size,2,none⟩=some (.int .i64 weight):=cH hbx1 rfl
   have b3:w1.cell? ⟨w.heap.size,3,none⟩=some (.slice ye.a each.length ye.cap):=cH hbx1 rfl
   clear hbx1
   rcases hw1 with ⟨u1,v1⟩ | ⟨u1,v1⟩
   ·have HV:=Lh v1
    clear v1
    go_wp2_with fail
    go_ret
    exact ⟨ret_int (by rw [HR2.out,if_pos (.inr (.inl HV.out))]),HB1.out.1⟩
   rcases hw2 with ⟨u2,v2⟩ | ⟨u2,v2⟩
   ·have HV:=Lh v2
    clear v1 v2
    go_wp2_with fail
    go_ret
    exact ⟨ret_int (by rw [HR2.out,if_pos (.inr (.inr (.inl HV.out)))]),HB1.out.1⟩
   rcases hw3 with ⟨u3,v3⟩ | ⟨u3,v3⟩
   ·have HV:=Lh v3
    clear v1 v2 v3
    go_wp2_with fail
    go_ret
    exact ⟨ret_int (by rw [HR2.out,if_pos (.inr (.inr (.inr (.inl HV.out))))]),HB1.out.1⟩
   have HV:=Lh (aI v1 (aI v2 v3))
   clear v1 v2 v3
   go_wp2_with fail
   refine (HEB.out _ HB1.out.1).mono ?_
   rintro e w2 ⟨rfl,hb2⟩
   have hbx2:=(hb2.block w.heap.size ((gS HB1.out.2).1)).trans HB1.out.2
   have HB2:=Lh (aI (HB1.out.1.trans (hb2.mono HB1.out.1.size)) hbx2)
   clear hb2 b2 b3
   cases eb
   ·clear hbx2
    go_wp2_with fail
    go_ret
    exact ⟨ret_int (by rw [HR2.out,if_pos (.inr (.inr (.inr (.inr (by first | rfl | trivial)))))]),HB2.out.1⟩
   have HR3:Hid (res=if fc ≠ 0 then fc else if my=false then 82 else wk):=Lh (by rw [HR2.out,if_neg (by have:=HV.out;simp;omega)])
   have b4:w2.cell? ⟨w.heap.size,4,none⟩=some (.int .i64 kind):=cH hbx2 rfl
   have b5:w2.cell? ⟨w.heap.size,5,none⟩=some (.string ⟨fname.toArray⟩):=cH hbx2 rfl
   have b6:w2.cell? ⟨w.heap.size,6,none⟩=some (.int .i64 n):=cH hbx2 rfl
   have b7:w2.cell? ⟨w.heap.size,7,none⟩=some (.slice yb.t.a terms.length yb.t.cap):=cH hbx2 rfl
   have b8:w2.cell? ⟨w.heap.size,8,none⟩=some (.slice yb.b.a binds.length yb.b.cap):=cH hbx2 rfl
   have b9:w2.cell? ⟨w.heap.size,9,none⟩=some (.slice yb.l.a fl.length yb.l.cap):=cH hbx2 rfl
   clear hbx2
   have hd:(fc ≠ 0/\(fc != 0)=true)∨(fc=0/\(fc != 0)=false):=by by_cases h:fc=0 <;> simp [h]
   go_wp2_with fail
   refine (HCK.out _ HB2.out.1).mono ?_
   rintro e w3 ⟨rfl,hb3⟩
   have hbx3:=(hb3.block w.heap.size ((gS HB2.out.2).1)).trans HB2.out.2
   have HB3:=Lh (aI (HB2.out.1.trans (hb3.mono HB2.out.1.size)) hbx3)
   clear hb3 b4 b5 b6 b7 b8 b9
   rcases hd with ⟨d1,d2⟩ | ⟨d1,d2⟩
   ·have HD:=Lh d1
    clear d1 hbx3
    go_wp2_with fail
    go_ret
    exact ⟨ret_int (by rw [HR3.out,if_pos HD.out]),HB3.out.1⟩
   subst d1
   clear d2
   have b3:w3.cell? ⟨w.heap.size,3,none⟩=some (.slice ye.a each.length ye.cap):=cH hbx3 rfl
   clear hbx3
   go_wp2_with fail
   refine (HM.out _ HB3.out.1).mono ?_
   rintro e w4 ⟨rfl,hb4⟩
   have hbx4:=(hb4.block w.heap.size ((gS HB3.out.2).1)).trans HB3.out.2
   have HB4:=Lh (HB3.out.1.trans (hb4.mono HB3.out.1.size))
   clear hb4 b3
   cases my
   ·clear hbx4
    go_wp2_with fail
    go_ret
    exact ⟨ret_int (by rw [HR3.out];simp),HB4.out⟩
   have b3:w4.cell? ⟨w.heap.size,3,none⟩=some (.slice ye.a each.length ye.cap):=cH hbx4 rfl
   have b4:w4.cell? ⟨w.heap.size,4,none⟩=some (.int .i64 kind):=cH hbx4 rfl
   have b5:w4.cell? ⟨w.heap.size,5,none⟩=some (.string ⟨fname.toArray⟩):=cH hbx4 rfl
   have b6:w4.cell? ⟨w.heap.size,6,none⟩=some (.int .i64 n):=cH hbx4 rfl
   have b7:w4.cell? ⟨w.heap.size,7,none⟩=some (.slice yb.t.a terms.length yb.t.cap):=cH hbx4 rfl
   have b8:w4.cell? ⟨w.heap.size,8,none⟩=some (.slice yb.b.a binds.length yb.b.cap):=cH hbx4 rfl
   have b9:w4.cell? ⟨w.heap.size,9,none⟩=some (.slice yb.l.a fl.length yb.l.cap):=cH hbx4 rfl
   clear hbx4
   have HWW:=Lh (HWK.out _ HB4.out (by first | rfl | trivial))
   go_wp2_with fail
   refine HWW.out.mono ?_
   rintro e w5 ⟨rfl,hb5⟩
   have HB5:=Lh (HB4.out.trans (hb5.mono HB4.out.size))
   clear hb5
   go_wp2_with fail
   go_ret
   exact ⟨ret_int (by rw [HR3.out];simp),HB5.out⟩
 ·-- hard=true
  have hw1:((weight:Int)<0/\weight<0)∨(decide ((weight:Int)<0)=false/\¬ weight<0):=by
   by_cases h:weight<0
   ·exact .inl ⟨h,h⟩
   ·exact .inr ⟨decide_eq_false h,h⟩
  have hw2:((0:Int)<weight/\0<weight)∨(decide ((0:Int)<weight)=false/\¬ 0<weight):=by
   by_cases h:0<weight
   ·exact .inl ⟨h,h⟩
   ·exact .inr ⟨decide_eq_false h,h⟩
  have hw3:((6:Int)<(each.length:Int)/\6<each.length)∨(decide ((6:Int)<(each.length:Int))=false/\¬ 6<each.length):=by
   by_cases h:6<each.length
   ·exact .inl ⟨by omega,h⟩
   ·exact .inr ⟨decide_eq_false (by omega),h⟩
  have HR2:Hid (res=if bo=false∨weight<0∨0<weight∨6<each.length∨eb=false then 1 else if fc ≠ 0 then fc else if my=false then 82 else wk):=Lh (by rw [HR.out];rfl)
  clear HR
  go_enter Tryz.func72,Tryz.ntmps72
  go_wp2_with fail
  refine (HFM.out _ HB.out.1).mono ?_
  rintro e w1 ⟨rfl,hb1⟩
  have hbx1:=(hb1.block w.heap.size (by simp)).trans HB.out.2
  have HB1:=Lh (aI (HB.out.1.trans (hb1.mono HB.out.1.size)) hbx1)
  clear hb1
  cases bo
  ·clear hbx1
   go_wp2_with fail
   go_ret
   exact ⟨ret_int (by rw [HR2.out,if_pos (.inl (by first | rfl | trivial))]),HB1.out.1⟩
  ·have b2:w1.cell? ⟨w.heap.size,2,none⟩=some (.int .i64 weight):=cH hbx1 rfl
   have b3:w1.cell? ⟨w.heap.size,3,none⟩=some (.slice ye.a each.length ye.cap):=cH hbx1 rfl
   clear hbx1
   rcases hw1 with ⟨u1,v1⟩ | ⟨u1,v1⟩
   ·have HV:=Lh v1
    clear v1
    go_wp2_with fail
    go_ret
    exact ⟨ret_int (by rw [HR2.out,if_pos (.inr (.inl HV.out))]),HB1.out.1⟩
   rcases hw2 with ⟨u2,v2⟩ | ⟨u2,v2⟩
   ·have HV:=Lh v2
    clear v1 v2
    go_wp2_with fail
    go_ret
    exact ⟨ret_int (by rw [HR2.out,if_pos (.inr (.inr (.inl HV.out)))]),HB1.out.1⟩
   rcases hw3 with ⟨u3,v3⟩ | ⟨u3,v3⟩
   ·have HV:=Lh v3
    clear v1 v2 v3
    go_wp2_with fail
    go_ret
    exact ⟨ret_int (by rw [HR2.out,if_pos (.inr (.inr (.inr (.inl HV.out))))]),HB1.out.1⟩
   have HV:=Lh (aI v1 (aI v2 v3))
   clear v1 v2 v3
   go_wp2_with fail
   refine (HEB.out _ HB1.out.1).mono ?_
   rintro e w2 ⟨rfl,hb2⟩
   have hbx2:=(hb2.block w.heap.size ((gS HB1.out.2).1)).trans HB1.out.2
   have HB2:=Lh (aI (HB1.out.1.trans (hb2.mono HB1.out.1.size)) hbx2)
   clear hb2 b2 b3
   cases eb
   ·clear hbx2
    go_wp2_with fail
    go_ret
    exact ⟨ret_int (by rw [HR2.out,if_pos (.inr (.inr (.inr (.inr (by first | rfl | trivial)))))]),HB2.out.1⟩
   have HR3:Hid (res=if fc ≠ 0 then fc else if my=false then 82 else wk):=Lh (by rw [HR2.out,if_neg (by have:=HV.out;simp;omega)])
   have b4:w2.cell? ⟨w.heap.size,4,none⟩=some (.int .i64 kind):=cH hbx2 rfl
   have b5:w2.cell? ⟨w.heap.size,5,none⟩=some (.string ⟨fname.toArray⟩):=cH hbx2 rfl
   have b6:w2.cell? ⟨w.heap.size,6,none⟩=some (.int .i64 n):=cH hbx2 rfl
   have b7:w2.cell? ⟨w.heap.size,7,none⟩=some (.slice yb.t.a terms.length yb.t.cap):=cH hbx2 rfl
   have b8:w2.cell? ⟨w.heap.size,8,none⟩=some (.slice yb.b.a binds.length yb.b.cap):=cH hbx2 rfl
   have b9:w2.cell? ⟨w.heap.size,9,none⟩=some (.slice yb.l.a fl.length yb.l.cap):=cH hbx2 rfl
   clear hbx2
   have hd:(fc ≠ 0/\(fc != 0)=true)∨(fc=0/\(fc != 0)=false):=by by_cases h:fc=0 <;> simp [h]
   go_wp2_with fail
   refine (HCK.out _ HB2.out.1).mono ?_
   rintro e w3 ⟨rfl,hb3⟩
   have hbx3:=(hb3.block w.heap.size ((gS HB2.out.2).1)).trans HB2.out.2
   have HB3:=Lh (aI (HB2.out.1.trans (hb3.mono HB2.out.1.size)) hbx3)
   clear hb3 b4 b5 b6 b7 b8 b9
   rcases hd with ⟨d1,d2⟩ | ⟨d1,d2⟩
   ·have HD:=Lh d1
    clear d1 hbx3
    go_wp2_with fail
    go_ret
    exact ⟨ret_int (by rw [HR3.out,if_pos HD.out]),HB3.out.1⟩
   subst d1
   clear d2
   have b3:w3.cell? ⟨w.heap.size,3,none⟩=some (.slice ye.a each.length ye.cap):=cH hbx3 rfl
   clear hbx3
   go_wp2_with fail
   refine (HM.out _ HB3.out.1).mono ?_
   rintro e w4 ⟨rfl,hb4⟩
   have hbx4:=(hb4.block w.heap.size ((gS HB3.out.2).1)).trans HB3.out.2
   have HB4:=Lh (HB3.out.1.trans (hb4.mono HB3.out.1.size))
   clear hb4 b3
   cases my
   ·clear hbx4
    go_wp2_with fail
    go_ret
    exact ⟨ret_int (by rw [HR3.out];simp),HB4.out⟩
   have b3:w4.cell? ⟨w.heap.size,3,none⟩=some (.slice ye.a each.length ye.cap):=cH hbx4 rfl
   have b4:w4.cell? ⟨w.heap.size,4,none⟩=some (.int .i64 kind):=cH hbx4 rfl
   have b5:w4.cell? ⟨w.heap.size,5,none⟩=some (.string ⟨fname.toArray⟩):=cH hbx4 rfl
   have b6:w4.cell? ⟨w.heap.size,6,none⟩=some (.int .i64 n):=cH hbx4 rfl
   have b7:w4.cell? ⟨w.heap.size,7,none⟩=some (.slice yb.t.a terms.length yb.t.cap):=cH hbx4 rfl
   have b8:w4.cell? ⟨w.heap.size,8,none⟩=some (.slice yb.b.a binds.length yb.b.cap):=cH hbx4 rfl
   have b9:w4.cell? ⟨w.heap.size,9,none⟩=some (.slice yb.l.a fl.length yb.l.cap):=cH hbx4 rfl
   clear hbx4
   have HWW:=Lh (HWK.out _ HB4.out (by first | rfl | trivial))
   go_wp2_with fail
   refine HWW.out.mono ?_
   rintro e w5 ⟨rfl,hb5⟩
   have HB5:=Lh (HB4.out.trans (hb5.mono HB4.out.size))
   clear hb5
   go_wp2_with fail
   go_ret
   exact ⟨ret_int (by rw [HR3.out];simp),HB5.out⟩
end Go.Proofs.YtncnnbmeacpboaaGreatDoor
/- types: Rules. -/
namespace Go.Chalk
open Go.RowKit
theorem CellsAt.ten {w:World} {b o:Nat} {c0 c1 c2 c3 c4 c5 c6 c7 c8 c9:Value} (h:CellsAt w b o [c0,c1,c2,c3,c4,c5,c6,c7,c8,c9]):w.cell? ⟨b,o,none⟩=some c0/\w.cell? ⟨b,o+1,none⟩=some c1/\w.cell? ⟨b,o+2,none⟩=some c2/\w.cell? ⟨b,o+3,none⟩=some c3/\w.cell? ⟨b,o+4,none⟩=some c4 /\
  w.cell? ⟨b,o+5,none⟩=some c5/\w.cell? ⟨b,o+6,none⟩=some c6/\w.cell? ⟨b,o+7,none⟩=some c7/\w.cell? ⟨b,o+8,none⟩=some c8/\w.cell? ⟨b,o+9,none⟩=some c9 :=
 ⟨by simpa using h 0 (by simp),by simpa using h 1 (by simp),by simpa using h 2 (by simp),by simpa using h 3 (by simp),by simpa using h 4 (by simp),by simpa using h 5 (by simp),by simpa using h 6 (by simp),by simpa using h 7 (by simp),by simpa using h 8 (by simp),by simpa using h 9 (by simp)⟩
theorem RulIn.later {w w':World} {r:Rul} {x:RulA} {B C:Nat} (h:RulIn w (·<B) r x) (hb:Below B w w') (hC:B<=C):RulIn w' (·<C) r x:=(h.agree (agree_of_below hb)).mono (fun _ hk=>Nat.lt_of_lt_of_le hk hC)
theorem rules_err {met:List Bs} {l r:List Rul} {x:Rul} {j:Nat} (hl:l=x :: r) {e:Int} (he:typRule x=e) (h:e ≠ 0):rulesGo met l j=((j:Int),e):=by
 subst hl;rw [rulesGo,he,if_pos h]
theorem rules_twice {met:List Bs} {l r:List Rul} {x:Rul} {j:Nat} (hl:l=x :: r) (he:typRule x=0) (h:met.contains x.name=true):rulesGo met l j=((j:Int),82):=by
 subst hl;rw [rulesGo,he,if_neg (by simp),h,if_pos rfl]
theorem rules_next {met:List Bs} {l r:List Rul} {x:Rul} {j:Nat} (hl:l=x :: r) (he:typRule x=0) (h:met.contains x.name=false):rulesGo met l j=rulesGo (met++[x.name]) r (j+1):=by
 subst hl;rw [rulesGo,he,if_neg (by simp),h,if_neg (by simp)]
end Go.Chalk
namespace Go.Proofs.YtncnnbmeacpboaaGreatDoor
open Go.RowKit Go.Chalk
theorem trules_any (l:List Rul) (x:SlA) (w:World) (hx:SlIn w (·<w.heap.size) (l.map Rul.toD) x) (hl:l.length<=2000000) (hf:∀ r∈l,RulFit r) (hg:GG w) :
  Calls Tryz.prog 42 #[.slice x.a l.length x.cap] w fun e w'=>e=.returned (.tuple #[.int .i64 (typRules l).1,.int .i64 (typRules l).2])/\Below w.heap.size w w':=by
 have hmm := @run_makeMap Tryz.prog
 have HIN:Hid (∀ (j:Nat) (hj:j<l.length),∃ y:RulA,RulIn w (·<w.heap.size) l[j] y/\CellsAt w x.b (x.o+j*10) (y.cells l[j])):=Lh (fun j hj=>hx.rul j hj)
 have HSL:=Lh hx.at_
 have HFT:=Lh (fun (j:Nat) (hj:j<l.length)=>hf _ (List.getElem_mem hj))
 have HG:=Lh hg
 obtain ⟨res,hres⟩:∃ res,res=typRules l:=⟨_,rfl⟩
 rw [<- hres]
 have HRS:=Lh (show res=rulesGo [] l 0 from hres)
 clear hx hf hg hres
 go_enter Tryz.func42,Tryz.ntmps42
 go_wp2_with fail
 go_loopw [11] (fun i wr=>∃ j:Nat,j<=l.length/\i=.int .i64 j/\Below w.heap.size w wr/\Hid (SetAt wr w.heap.size ((l.take j).map Rul.name))/\Hid (res=rulesGo ((l.take j).map Rul.name) (l.drop j) j)) (fun i _=>l.length - (intOf i).toNat)
 case atStart=>exact ⟨0,Nat.zero_le _,rfl,(Below.refl _ _).alloc (Nat.le_refl _) _,Lh (setAt_new w),HRS⟩
 case round =>
  obtain ⟨j,hj,rfl,hb,HSET,HE⟩:=hrel
  by_cases hlt:j<l.length
  ·obtain ⟨y,hy1,hy2⟩:=HIN.out j hlt
   obtain ⟨hxa,hFb⟩:=HSL.out (by rw [List.length_map];omega)
   have hys:=hy2.agree (agree_of_below hb) hFb
   have hbw:Below w.heap.size w (wr.alloc (.cells (y.cells l[j]).toArray 66)):=hb.alloc hb.size _
   have HCL:=Lh (trule_any l[j] y _ (hy1.later hbw hbw.size) (HFT.out j hlt) (HG.out.below hbw))
   have hdrop:l.drop j=l[j] :: l.drop (j+1):=List.drop_eq_getElem_cons hlt
   have htk:(l.take (j+1)).map Rul.name=(l.take j).map Rul.name++[l[j].name]:=by rw [List.take_succ_eq_append_getElem hlt,List.map_append];rfl
   have HDR:=Lh hdrop
   have HTK:=Lh htk
   have HBW:=Lh hbw
   obtain ⟨c,hc⟩:∃ c,typRule l[j]=c:=⟨_,rfl⟩
   rw [hc] at HCL
   have HCC:=Lh hc
   rw [hxa]
   clear hy1 hy2 hFb hbw hdrop hc htk
   generalize l[j]=re at HCL HBW HDR HCC HTK hys
   obtain ⟨name,hard,weight,each,⟨kind,fname,n,terms,binds,fl⟩⟩:=re
   obtain ⟨ye,yb⟩:=y
   simp only [RulA.cells,FrmA.cells,SlA.val,Frm.kind,Frm.name,Frm.n,Frm.terms,Frm.binds,Frm.l] at HCL HBW HTK hys
   obtain ⟨e0,e1,e2,e3,e4,e5,e6,e7,e8,e9⟩:=hys.ten
   clear hys
   generalize hmet:(l.take j).map Rul.name=met at HSET HE HTK
   clear hmet
   have hcd:(c ≠ 0/\(c != 0)=true)∨(c=0/\(c != 0)=false):=by by_cases h:c=0 <;> simp [h]
   rcases hcd with ⟨d1,d2⟩ | ⟨d1,d2⟩
   ·have HD:=Lh (HE.out.trans (rules_err HDR.out HCC.out d1))
    clear d1
    go_wp2_with fail
    refine HCL.out.mono ?_
    rintro e w1 ⟨rfl,hb1⟩
    have HB1:=Lh (HBW.out.trans (hb1.mono HBW.out.size))
    clear hb1
    go_wp2_with fail
    go_ret2
    exact ⟨by rw [HD.out];rfl,HB1.out⟩
   ·subst d1
    clear d2
    go_wp2_with fail
    refine HCL.out.mono ?_
    rintro e w1 ⟨rfl,hb1⟩
    have hlw:=(gS HSET.out).1
    have hset1:SetAt w1 w.heap.size met:=(hb1.block w.heap.size (by simp;omega)).trans ((Below.heap_alloc _ _ _ hlw).trans HSET.out)
    have q0:w1.cell? ⟨wr.heap.size,0,none⟩=some (.string ⟨name.toArray⟩):=cH (boxed (B:=wr.heap.size+1) (by simpa using hb1) (by omega)) rfl
    have HB1:=Lh (HBW.out.trans (hb1.mono HBW.out.size))
    have hlk:=set_look (P:=Tryz.prog) w1 120 _ _ w.heap.size met name Tryz.underlying120 Tryz.underlying9 Tryz.zeroValue4 hset1
    cases hcn:met.contains name
    ·have hput:=set_put (P:=Tryz.prog) w1 120 _ _ w.heap.size met name Tryz.underlying120 Tryz.underlying9 hset1 hcn
     rw [hcn] at hlk
     have HD:=Lh (HE.out.trans (rules_next HDR.out HCC.out hcn))
     have hl1:w.heap.size<w1.heap.size:=(gS hset1).1
     clear hb1 hset1 hcn hlw
     go_wp2_with fail
     refine ⟨⟨j+1,by omega,by go_num,?_,Lh ?_,Lh ?_⟩,by simp [intOf];omega⟩
     ·exact HB1.out.trans ((Chalk.Mod.putObj w1 w.heap.size _).below HB1.out.size (fun k hk=>by omega))
     ·rw [HTK.out]
      show (World.putObj _ _ _).heap[_]?=_
      rw [World.putObj_heap_same hl1]
      simp
     ·rw [HTK.out];exact HD.out
    ·rw [hcn] at hlk
     have HD:=Lh (HE.out.trans (rules_twice HDR.out HCC.out hcn))
     clear hb1 hset1 hcn hlw
     go_wp2_with fail
     go_ret2
     exact ⟨by rw [HD.out];rfl,HB1.out⟩
  ·have hjl:j=l.length:=by omega
   have HD:Hid (res=(0,0)):=Lh (by rw [HE.out,hjl,List.drop_length,rulesGo])
   clear hjl
   go_wp2_with fail
   go_ret2
   exact ⟨by rw [HD.out];rfl,hb⟩
end Go.Proofs.YtncnnbmeacpboaaGreatDoor
/- week.Check. -/
namespace Go.Proofs.YtncnnbmeacpboaaGreatDoor
open Go.RowKit Go.Chalk
def SchBox (W:World) (b:Nat) (s:Schl) (x:SchA):Prop:=W.heap[b]?=some (.cells (x.cells s).toArray 28 (0,0))
theorem SchBox.cells {W:World} {b:Nat} {s:Schl} {x:SchA} (h:SchBox W b s x):W.cell? ⟨b,0,none⟩=some (.slice x.slots.a s.slots.length x.slots.cap)/\W.cell? ⟨b,1,none⟩=some (.slice x.rooms.a s.rooms.length x.rooms.cap)/\W.cell? ⟨b,2,none⟩=some (.slice x.people.a s.people.length x.people.cap)/\W.cell? ⟨b,3,none⟩=some (.slice x.groups.a s.groups.length x.groups.cap)/\W.cell? ⟨b,4,none⟩=some (.slice x.lessons.a s.lessons.length x.lessons.cap) :=
 ⟨cH h rfl,cH h rfl,cH h rfl,cH h rfl,cH h rfl⟩
theorem SchBox.below {W W':World} {b:Nat} {s:Schl} {x:SchA} (h:SchBox W b s x) (hb:Below W.heap.size W W'):SchBox W' b s x:=(hb.block _ (gS h).1).trans h
theorem SchBox.lt {W:World} {b:Nat} {s:Schl} {x:SchA} (h:SchBox W b s x):b<W.heap.size:=(gS h).1

end Go.Proofs.YtncnnbmeacpboaaGreatDoor
/- eval: binds, sizes, many. -/
namespace Go.Chalk
open Go.RowKit
def nats (l:List Nat):List Int:=l.map (fun (n:Nat)=>(n:Int))
@[simp] theorem nats_length (a:List Nat):(nats a).length=a.length:=by simp [nats]
variable {P:Program}
def OwnN (w:World) (lo:Nat) (F:Nat->Prop) (e:TypeId) (sz:Nat) (v:Value) (xs:List D):Prop:=∃ r,Own w F e sz v r xs/\∀ k,r=some k->lo<=k
theorem OwnN.onto {w:World} {lo:Nat} {F:Nat->Prop} {e:TypeId} {sz:Nat} {v:Value} {xs:List D} (h:OwnN w lo F e sz v xs):Onto1 w lo F e sz v xs:=.inr h
theorem OwnN.nil (w:World) (lo:Nat) (F:Nat->Prop) (e:TypeId) (sz:Nat) (lt:∀ k,F k->k<w.heap.size):OwnN w lo F e sz (.slice none 0 0) []:=⟨none,Own.nil _ _ _ _ lt,fun _ h=>by cases h⟩
theorem OwnN.below {w w':World} {lo:Nat} {F:Nat->Prop} {e:TypeId} {sz:Nat} {v:Value} {xs:List D} (h:OwnN w lo F e sz v xs) (hb:Below w.heap.size w w'):OwnN w' lo F e sz v xs:=by
 obtain ⟨r,h1,h2⟩:=h;exact ⟨r,h1.below hb,h2⟩
theorem OwnN.form {w:World} {lo:Nat} {F:Nat->Prop} {e:TypeId} {sz:Nat} {v:Value} {xs:List D} (h:OwnN w lo F e sz v xs):∃ a cap,v=.slice a xs.length cap:=by
 obtain ⟨r,h1,_⟩:=h;exact h1.form
theorem wpList_append_oneO {W0:World} {B:Nat} (hB:W0.heap.size=B) {lo:Nat} {F:Nat->Prop} {ops:Array Oper} {rest:List Oper} {o:Oper} {a:Act} {Q:Exit->Act->World->Prop} (hgd:o.guard=none) (s x:Operand) (t:TypeId)
  (ho:o.op=.call { callee:=.builtin .append,args:=#[s,x],argTypes:=#[t,t] }) (e:TypeId) (i:TypeInfo) (z:Value) (size bytes:Nat) (ht:P.underlying t=some (.slice e)) (hi:P.info? e=some i) (hz:i.zero=some z)
  (hsize:i.size=size) (hby:i.bytes=bytes) (hzs:z.cells.size=size) (hsz:0<size) (v:Value) (xs:List D) (y:D) (cs:List Value) (T:TypeId) (hs:a.eval s=v) (hx:a.eval x=.slice (some ⟨B,0,none⟩) 1 1)
  (hv:OwnN W0 lo F e size v xs) (hd:DsAt W0 F [y] cs) (hlo:lo<=W0.heap.size) (hw:y.width=size) (h63:xs.length+1<=maxLen) (hbytes:(xs.length+1)*bytes<=140737488355328)
  (h:∀ ao cap w',OwnN w' lo F e size (.slice ao (xs.length+1) cap) (xs++[y])->Below lo W0 w'->wpList P ops Q rest (a.put o.dst (.slice ao (xs.length+1) cap)) w') :
  wpList P ops Q (o :: rest) a (W0.alloc (.cells cs.toArray T)):=by
 obtain ⟨r,h1,h2⟩:=hv
 have hb:Below W0.heap.size W0 (W0.alloc (.cells cs.toArray T)):=(Below.refl _ _).alloc (Nat.le_refl _) _
 have hnb:(W0.alloc (.cells cs.toArray T)).heap[W0.heap.size]?=some (.cells cs.toArray T (0,0)):=boxed (B:=W0.heap.size+1) (Below.refl _ _) (by omega)
 have hnews:∀ j u,cs[j]?=some u->(W0.alloc (.cells cs.toArray T)).cell? ((⟨W0.heap.size,0,none⟩:Addr).add j)=some u:=fun j u hu=>by
  have hc:=cH (i:=j) hnb (v:=u) (by simpa using hu)
  unfold Addr.add
  by_cases h0:j=0
  ·subst h0;simpa using hc
  ·rw [if_neg h0];simpa using hc
 have hlen:cs.length=1*size:=by
  have:=DsAt.length _ _ hd
  rw [this];simp [widths,hw]
 have hd':DsAt (W0.alloc (.cells cs.toArray T)) F [y] cs:=DsAt.agree ((agree_of_below hb).mono h1.lt) _ _ hd
 have h1':=h1.alloc (.cells cs.toArray T)
 obtain ⟨cs0,k1,k2⟩:=h1'.cells
 refine wpList_append_lies (W0.alloc (.cells cs.toArray T)) hgd s x t ho 0 e i z size bytes ht hi hz hsize hby hzs hsz v xs.length cs0 hs k1 ⟨W0.heap.size,0,none⟩ 1 1 cs (by rw [hx,hB]) hlen hnews (DsAt.one _ _ hd) (by omega) h63 hbytes (Nat.zero_le _) _ rfl (fun g cap w' hown hgr hat hlt=>?_)
 obtain ⟨g1,g2,g3⟩:=h1'.appended (ys:=[y]) k2 hown hgr (by rcases hat with h | h;exact .inl h.symm;exact .inr (by rw [h];rfl)) hd'
 have hm0:Mod (fun k=>r=some k) W0 w':=(Mod.of_below (S:=fun k=>r=some k) hb).trans g2 (fun _ _ h=>h)
 refine h _ _ _ ⟨_,g1,fun k hk=>?_⟩ (hm0.below hlo (fun k hk=>h2 k hk))
 rcases g3 with g3 | g3
 ·rw [g3] at hk;exact h2 k hk
 ·rw [g3] at hk;simp at hk;omega
end Go.Chalk
namespace Go.Proofs.YtncnnbmeacpboaaGreatDoor
open Go.RowKit Go.Chalk
theorem count_le {s:Schl} (hsm:SchSmall s) (sort:Int):schCount s sort<=2000000:=by
 have h1:=hsm.slots;have h2:=hsm.rooms;have h3:=hsm.people;have h4:=hsm.groups;have h5:=hsm.lessons
 rw [schCount_eq]
 repeat' split
 all_goals omega

end Go.Proofs.YtncnnbmeacpboaaGreatDoor
/- The reference's Names and Count. -/
namespace Go.Proofs.YtncnnbmeacpboaaGreatDoor
open Go.RowKit Go.Chalk
def strD (n:Bs):D:=.str ⟨n.toArray⟩
theorem strD_flat:FlatT strD 1:=⟨fun _=>rfl,fun _=>rfl⟩
theorem infoStr0:(Tryz.prog.info? 9).map (fun i=>(i.zero,i.size,i.bytes))=some (some (.string ByteArray.empty),1,16):=by kernel_rfl
theorem str_take {ns:List Bs} {j:Nat} (hj:j<ns.length):(ns.take (j+1)).map strD=(ns.take j).map strD++[strD ns[j]]:=by rw [List.take_succ_eq_append_getElem hj,List.map_append];rfl
theorem rnames_none (s:Schl) (x:SchA) (sort:Int) (w:World) (h:¬ (1<=sort/\sort<=7)) :
  Calls Tryz.prog 40 #[.agg (x.cells s).toArray,.int .i64 sort] w fun e w'=>∃ x0:SlA,e=.returned (.slice x0.a 0 x0.cap)/\SlIn w' (·<w'.heap.size) [] x0/\Below w.heap.size w w':=by
 have k1:(sort==1)=false:=by simp;omega
 have k2:(sort==2)=false:=by simp;omega
 have k3:(sort==3)=false:=by simp;omega
 have k4:(sort==4)=false:=by simp;omega
 have k5:(sort==5)=false:=by simp;omega
 have k6:(sort==6)=false:=by simp;omega
 have k7:(sort==7)=false:=by simp;omega
 clear h
 simp only [SchA.cells,SlA.val]
 go_enter Tryz.func40,Tryz.ntmps40
 go_wp2_with fail
 go_ret
 exact ⟨⟨none,0,0,0⟩,rfl,SlIn.nil (Nat.zero_le _) _ _ _,(Below.refl _ _).alloc (Nat.le_refl _) _⟩

theorem rnames_1 (s:Schl) (x:SchA) (w:World) (hs:SlIn w (·<w.heap.size) (s.lessons.map Lsn.toD) x.lessons) (hl:s.lessons.length<=2000000) (hN:∀ (j:Nat) (hj:j<s.lessons.length),w.cell? ⟨x.lessons.b,x.lessons.o+j*3,none⟩=some (.string ⟨s.lessons[j].name.toArray⟩)/\s.lessons[j].name.length<=maxLen) :
  Calls Tryz.prog 40 #[.agg (x.cells s).toArray,.int .i64 1] w fun e w'=>∃ x0:SlA,e=.returned (.slice x0.a (s.lessons.map Lsn.name).length x0.cap)/\SlIn w' (·<w'.heap.size) ((s.lessons.map Lsn.name).map strD) x0/\Below w.heap.size w w':=by
 have HSL:=Lh hs.at_
 have HN:=Lh hN
 have hbx:SchBox (w.alloc (.cells (x.cells s).toArray 28)) w.heap.size s x:=by unfold SchBox;rw [heap_get,if_pos rfl]
 have HBX:=Lh hbx
 obtain ⟨i0,hi,hz0,hz1,hz2⟩:=info_parts infoStr0
 obtain ⟨ns,hns⟩:∃ ns,ns=s.lessons.map Lsn.name:=⟨_,rfl⟩
 have hln:ns.length=s.lessons.length:=by rw [hns,List.length_map]
 have HNS:=Lh (aI hns (aI hln hl))
 rw [<- hns]
 clear hs hN hbx hns hln hl
 simp only [SchA.cells,SlA.val] at HBX ⊢
 go_enter Tryz.func40,Tryz.ntmps40
 go_wp2_with fail
 go_loopw [5,6] (fun v i wr=>∃ j:Nat,j<=s.lessons.length/\i=.int .i64 j/\Below w.heap.size w wr/\Hid (SchBox wr w.heap.size s x)/\Hid (OwnN wr (w.heap.size+1) (fun _=>False) 9 1 v ((ns.take j).map strD))) (fun _ i _=>s.lessons.length - (intOf i).toNat)
 case atStart=>exact ⟨0,Nat.zero_le _,rfl,(Below.refl _ _).alloc (Nat.le_refl _) _,HBX,Lh (OwnN.nil _ _ _ _ _ (fun _ h=>h.elim))⟩
 case round =>
  obtain ⟨j,hj,rfl,hb,HBX,HO⟩:=hrel
  obtain ⟨c0,c1,c2,c3,c4⟩:=HBX.out.cells
  obtain ⟨oa,ocap,ho⟩:=HO.out.form
  subst ho
  have hlen:((ns.take j).map strD).length=j:=by rw [List.length_map,List.length_take];have:=HNS.out.2.1;omega
  rw [hlen] at HO ⊢
  have HLN:=Lh hlen
  clear hlen
  by_cases hlt:j<s.lessons.length
  ·obtain ⟨hxa,hbl⟩:=HSL.out (by rw [List.length_map];omega)
   obtain ⟨q0,q1⟩:=HN.out j hlt
   have e0:=(hb.cell (p:=⟨x.lessons.b,x.lessons.o+j*3,none⟩) hbl).trans q0
   have hjn:j<ns.length:=by have:=HNS.out.2.1;omega
   have hnj:ns[j]=s.lessons[j].name:=by have h:=HNS.out.1;subst h;simp
   have HT:=Lh (str_take hjn)
   rw [hnj] at HT
   have HF:=Lh (DsAt.flat1 (w:=wr) (F:=fun _=>False) (x:=strD s.lessons[j].name) rfl (by show (⟨(s.lessons[j].name).toArray⟩:ByteArray).size<=maxLen;rw [bs_size];exact q1))
   have HB1:=Lh hb
   have hlm:=HNS.out.2.2
   rw [hxa] at c4
   clear q0 q1 hjn hnj hxa
   generalize s.lessons[j].name=nm at HT HF e0
   go_wp2_with (at_builtin;go_must (refine wpList_append_oneO rfl rfl _ _ 47 rfl 9 i0 _ 1 16 Tryz.underlying47 hi hz0 hz1 hz2 rfl (by decide) (.slice oa j ocap) ((ns.take j).map strD) (strD nm) [.string ⟨nm.toArray⟩] 9 rfl rfl HO.out HF.out (by have:=HBX.out.lt;omega) rfl (by rw [HLN.out];unfold maxLen;omega) (by rw [HLN.out];omega) ?_);intro ao cap w5 hon hb5;rw [HLN.out] at hon ⊢;have HON:=Lh (aI hon (aI (HB1.out.trans (hb5.mono (by omega))) (show SchBox w5 w.heap.size s x from (hb5.block _ (by omega)).trans HBX.out)));clear hon hb5)
   refine ⟨⟨j+1,by omega,by go_num,HON.out.2.1,Lh HON.out.2.2,Lh ?_⟩,by simp [intOf];omega⟩
   rw [HT.out];exact HON.out.1
  ·have HL:Hid (ns.take j=ns/\j=ns.length):=Lh ⟨List.take_of_length_le (by have:=HNS.out.2.1;omega),by have:=HNS.out.2.1;omega⟩
   have HB1:=Lh hb
   go_wp2_with fail
   go_ret
   have h:=HO.out
   rw [HL.out.1] at h
   obtain ⟨x0,h0,h1⟩:=h.onto.sl (by rw [widths_map strD_flat,List.length_map])
   rw [List.length_map,<- HL.out.2] at h0
   refine ⟨x0,?_,h1,HB1.out⟩
   show Ending.returned (.slice oa j ocap)=_
   rw [h0,SlA.val,<- HL.out.2]

theorem rnames_2 (s:Schl) (x:SchA) (w:World) (hs:SlIn w (·<w.heap.size) (s.slots.map Slt.toD) x.slots) (hl:s.slots.length<=2000000) (hN:∀ (j:Nat) (hj:j<s.slots.length),w.cell? ⟨x.slots.b,x.slots.o+j*3,none⟩=some (.string ⟨s.slots[j].name.toArray⟩)/\s.slots[j].name.length<=maxLen) :
  Calls Tryz.prog 40 #[.agg (x.cells s).toArray,.int .i64 2] w fun e w'=>∃ x0:SlA,e=.returned (.slice x0.a (s.slots.map Slt.name).length x0.cap)/\SlIn w' (·<w'.heap.size) ((s.slots.map Slt.name).map strD) x0/\Below w.heap.size w w':=by
 have HSL:=Lh hs.at_
 have HN:=Lh hN
 have hbx:SchBox (w.alloc (.cells (x.cells s).toArray 28)) w.heap.size s x:=by unfold SchBox;rw [heap_get,if_pos rfl]
 have HBX:=Lh hbx
 obtain ⟨i0,hi,hz0,hz1,hz2⟩:=info_parts infoStr0
 obtain ⟨ns,hns⟩:∃ ns,ns=s.slots.map Slt.name:=⟨_,rfl⟩
 have hln:ns.length=s.slots.length:=by rw [hns,List.length_map]
 have HNS:=Lh (aI hns (aI hln hl))
 rw [<- hns]
 clear hs hN hbx hns hln hl
 simp only [SchA.cells,SlA.val] at HBX ⊢
 go_enter Tryz.func40,Tryz.ntmps40
 go_wp2_with fail
 go_loopw [5,7] (fun v i wr=>∃ j:Nat,j<=s.slots.length/\i=.int .i64 j/\Below w.heap.size w wr/\Hid (SchBox wr w.heap.size s x)/\Hid (OwnN wr (w.heap.size+1) (fun _=>False) 9 1 v ((ns.take j).map strD))) (fun _ i _=>s.slots.length - (intOf i).toNat)
 case atStart=>exact ⟨0,Nat.zero_le _,rfl,(Below.refl _ _).alloc (Nat.le_refl _) _,HBX,Lh (OwnN.nil _ _ _ _ _ (fun _ h=>h.elim))⟩
 case round =>
  obtain ⟨j,hj,rfl,hb,HBX,HO⟩:=hrel
  obtain ⟨c0,c1,c2,c3,c4⟩:=HBX.out.cells
  obtain ⟨oa,ocap,ho⟩:=HO.out.form
  subst ho
  have hlen:((ns.take j).map strD).length=j:=by rw [List.length_map,List.length_take];have:=HNS.out.2.1;omega
  rw [hlen] at HO ⊢
  have HLN:=Lh hlen
  clear hlen
  by_cases hlt:j<s.slots.length
  ·obtain ⟨hxa,hbl⟩:=HSL.out (by rw [List.length_map];omega)
   obtain ⟨q0,q1⟩:=HN.out j hlt
   have e0:=(hb.cell (p:=⟨x.slots.b,x.slots.o+j*3,none⟩) hbl).trans q0
   have hjn:j<ns.length:=by have:=HNS.out.2.1;omega
   have hnj:ns[j]=s.slots[j].name:=by have h:=HNS.out.1;subst h;simp
   have HT:=Lh (str_take hjn)
   rw [hnj] at HT
   have HF:=Lh (DsAt.flat1 (w:=wr) (F:=fun _=>False) (x:=strD s.slots[j].name) rfl (by show (⟨(s.slots[j].name).toArray⟩:ByteArray).size<=maxLen;rw [bs_size];exact q1))
   have HB1:=Lh hb
   have hlm:=HNS.out.2.2
   rw [hxa] at c0
   clear q0 q1 hjn hnj hxa
   generalize s.slots[j].name=nm at HT HF e0
   go_wp2_with (at_builtin;go_must (refine wpList_append_oneO rfl rfl _ _ 47 rfl 9 i0 _ 1 16 Tryz.underlying47 hi hz0 hz1 hz2 rfl (by decide) (.slice oa j ocap) ((ns.take j).map strD) (strD nm) [.string ⟨nm.toArray⟩] 9 rfl rfl HO.out HF.out (by have:=HBX.out.lt;omega) rfl (by rw [HLN.out];unfold maxLen;omega) (by rw [HLN.out];omega) ?_);intro ao cap w5 hon hb5;rw [HLN.out] at hon ⊢;have HON:=Lh (aI hon (aI (HB1.out.trans (hb5.mono (by omega))) (show SchBox w5 w.heap.size s x from (hb5.block _ (by omega)).trans HBX.out)));clear hon hb5)
   refine ⟨⟨j+1,by omega,by go_num,HON.out.2.1,Lh HON.out.2.2,Lh ?_⟩,by simp [intOf];omega⟩
   rw [HT.out];exact HON.out.1
  ·have HL:Hid (ns.take j=ns/\j=ns.length):=Lh ⟨List.take_of_length_le (by have:=HNS.out.2.1;omega),by have:=HNS.out.2.1;omega⟩
   have HB1:=Lh hb
   go_wp2_with fail
   go_ret
   have h:=HO.out
   rw [HL.out.1] at h
   obtain ⟨x0,h0,h1⟩:=h.onto.sl (by rw [widths_map strD_flat,List.length_map])
   rw [List.length_map,<- HL.out.2] at h0
   refine ⟨x0,?_,h1,HB1.out⟩
   show Ending.returned (.slice oa j ocap)=_
   rw [h0,SlA.val,<- HL.out.2]

theorem rnames_3 (s:Schl) (x:SchA) (w:World) (hs:SlIn w (·<w.heap.size) (s.rooms.map Rom.toD) x.rooms) (hl:s.rooms.length<=2000000) (hN:∀ (j:Nat) (hj:j<s.rooms.length),w.cell? ⟨x.rooms.b,x.rooms.o+j*4,none⟩=some (.string ⟨s.rooms[j].name.toArray⟩)/\s.rooms[j].name.length<=maxLen) :
  Calls Tryz.prog 40 #[.agg (x.cells s).toArray,.int .i64 3] w fun e w'=>∃ x0:SlA,e=.returned (.slice x0.a (s.rooms.map Rom.name).length x0.cap)/\SlIn w' (·<w'.heap.size) ((s.rooms.map Rom.name).map strD) x0/\Below w.heap.size w w':=by
 have HSL:=Lh hs.at_
 have HN:=Lh hN
 have hbx:SchBox (w.alloc (.cells (x.cells s).toArray 28)) w.heap.size s x:=by unfold SchBox;rw [heap_get,if_pos rfl]
 have HBX:=Lh hbx
 obtain ⟨i0,hi,hz0,hz1,hz2⟩:=info_parts infoStr0
 obtain ⟨ns,hns⟩:∃ ns,ns=s.rooms.map Rom.name:=⟨_,rfl⟩
 have hln:ns.length=s.rooms.length:=by rw [hns,List.length_map]
 have HNS:=Lh (aI hns (aI hln hl))
 rw [<- hns]
 clear hs hN hbx hns hln hl
 simp only [SchA.cells,SlA.val] at HBX ⊢
 go_enter Tryz.func40,Tryz.ntmps40
 go_wp2_with fail
 go_loopw [5,8] (fun v i wr=>∃ j:Nat,j<=s.rooms.length/\i=.int .i64 j/\Below w.heap.size w wr/\Hid (SchBox wr w.heap.size s x)/\Hid (OwnN wr (w.heap.size+1) (fun _=>False) 9 1 v ((ns.take j).map strD))) (fun _ i _=>s.rooms.length - (intOf i).toNat)
 case atStart=>exact ⟨0,Nat.zero_le _,rfl,(Below.refl _ _).alloc (Nat.le_refl _) _,HBX,Lh (OwnN.nil _ _ _ _ _ (fun _ h=>h.elim))⟩
 case round =>
  obtain ⟨j,hj,rfl,hb,HBX,HO⟩:=hrel
  obtain ⟨c0,c1,c2,c3,c4⟩:=HBX.out.cells
  obtain ⟨oa,ocap,ho⟩:=HO.out.form
  subst ho
  have hlen:((ns.take j).map strD).length=j:=by rw [List.length_map,List.length_take];have:=HNS.out.2.1;omega
  rw [hlen] at HO ⊢
  have HLN:=Lh hlen
  clear hlen
  by_cases hlt:j<s.rooms.length
  ·obtain ⟨hxa,hbl⟩:=HSL.out (by rw [List.length_map];omega)
   obtain ⟨q0,q1⟩:=HN.out j hlt
   have e0:=(hb.cell (p:=⟨x.rooms.b,x.rooms.o+j*4,none⟩) hbl).trans q0
   have hjn:j<ns.length:=by have:=HNS.out.2.1;omega
   have hnj:ns[j]=s.rooms[j].name:=by have h:=HNS.out.1;subst h;simp
   have HT:=Lh (str_take hjn)
   rw [hnj] at HT
   have HF:=Lh (DsAt.flat1 (w:=wr) (F:=fun _=>False) (x:=strD s.rooms[j].name) rfl (by show (⟨(s.rooms[j].name).toArray⟩:ByteArray).size<=maxLen;rw [bs_size];exact q1))
   have HB1:=Lh hb
   have hlm:=HNS.out.2.2
   rw [hxa] at c1
   clear q0 q1 hjn hnj hxa
   generalize s.rooms[j].name=nm at HT HF e0
   go_wp2_with (at_builtin;go_must (refine wpList_append_oneO rfl rfl _ _ 47 rfl 9 i0 _ 1 16 Tryz.underlying47 hi hz0 hz1 hz2 rfl (by decide) (.slice oa j ocap) ((ns.take j).map strD) (strD nm) [.string ⟨nm.toArray⟩] 9 rfl rfl HO.out HF.out (by have:=HBX.out.lt;omega) rfl (by rw [HLN.out];unfold maxLen;omega) (by rw [HLN.out];omega) ?_);intro ao cap w5 hon hb5;rw [HLN.out] at hon ⊢;have HON:=Lh (aI hon (aI (HB1.out.trans (hb5.mono (by omega))) (show SchBox w5 w.heap.size s x from (hb5.block _ (by omega)).trans HBX.out)));clear hon hb5)
   refine ⟨⟨j+1,by omega,by go_num,HON.out.2.1,Lh HON.out.2.2,Lh ?_⟩,by simp [intOf];omega⟩
   rw [HT.out];exact HON.out.1
  ·have HL:Hid (ns.take j=ns/\j=ns.length):=Lh ⟨List.take_of_length_le (by have:=HNS.out.2.1;omega),by have:=HNS.out.2.1;omega⟩
   have HB1:=Lh hb
   go_wp2_with fail
   go_ret
   have h:=HO.out
   rw [HL.out.1] at h
   obtain ⟨x0,h0,h1⟩:=h.onto.sl (by rw [widths_map strD_flat,List.length_map])
   rw [List.length_map,<- HL.out.2] at h0
   refine ⟨x0,?_,h1,HB1.out⟩
   show Ending.returned (.slice oa j ocap)=_
   rw [h0,SlA.val,<- HL.out.2]

theorem rnames_4 (s:Schl) (x:SchA) (w:World) (hs:SlIn w (·<w.heap.size) (s.people.map Psn.toD) x.people) (hl:s.people.length<=2000000) (hN:∀ (j:Nat) (hj:j<s.people.length),w.cell? ⟨x.people.b,x.people.o+j*2,none⟩=some (.string ⟨s.people[j].name.toArray⟩)/\s.people[j].name.length<=maxLen) :
  Calls Tryz.prog 40 #[.agg (x.cells s).toArray,.int .i64 4] w fun e w'=>∃ x0:SlA,e=.returned (.slice x0.a (s.people.map Psn.name).length x0.cap)/\SlIn w' (·<w'.heap.size) ((s.people.map Psn.name).map strD) x0/\Below w.heap.size w w':=by
 have HSL:=Lh hs.at_
 have HN:=Lh hN
 have hbx:SchBox (w.alloc (.cells (x.cells s).toArray 28)) w.heap.size s x:=by unfold SchBox;rw [heap_get,if_pos rfl]
 have HBX:=Lh hbx
 obtain ⟨i0,hi,hz0,hz1,hz2⟩:=info_parts infoStr0
 obtain ⟨ns,hns⟩:∃ ns,ns=s.people.map Psn.name:=⟨_,rfl⟩
 have hln:ns.length=s.people.length:=by rw [hns,List.length_map]
 have HNS:=Lh (aI hns (aI hln hl))
 rw [<- hns]
 clear hs hN hbx hns hln hl
 simp only [SchA.cells,SlA.val] at HBX ⊢
 go_enter Tryz.func40,Tryz.ntmps40
 go_wp2_with fail
 go_loopw [5,9] (fun v i wr=>∃ j:Nat,j<=s.people.length/\i=.int .i64 j/\Below w.heap.size w wr/\Hid (SchBox wr w.heap.size s x)/\Hid (OwnN wr (w.heap.size+1) (fun _=>False) 9 1 v ((ns.take j).map strD))) (fun _ i _=>s.people.length - (intOf i).toNat)
 case atStart=>exact ⟨0,Nat.zero_le _,rfl,(Below.refl _ _).alloc (Nat.le_refl _) _,HBX,Lh (OwnN.nil _ _ _ _ _ (fun _ h=>h.elim))⟩
 case round =>
  obtain ⟨j,hj,rfl,hb,HBX,HO⟩:=hrel
  obtain ⟨c0,c1,c2,c3,c4⟩:=HBX.out.cells
  obtain ⟨oa,ocap,ho⟩:=HO.out.form
  subst ho
  have hlen:((ns.take j).map strD).length=j:=by rw [List.length_map,List.length_take];have:=HNS.out.2.1;omega
  rw [hlen] at HO ⊢
  have HLN:=Lh hlen
  clear hlen
  by_cases hlt:j<s.people.length
  ·obtain ⟨hxa,hbl⟩:=HSL.out (by rw [List.length_map];omega)
   obtain ⟨q0,q1⟩:=HN.out j hlt
   have e0:=(hb.cell (p:=⟨x.people.b,x.people.o+j*2,none⟩) hbl).trans q0
   have hjn:j<ns.length:=by have:=HNS.out.2.1;omega
   have hnj:ns[j]=s.people[j].name:=by have h:=HNS.out.1;subst h;simp
   have HT:=Lh (str_take hjn)
   rw [hnj] at HT
   have HF:=Lh (DsAt.flat1 (w:=wr) (F:=fun _=>False) (x:=strD s.people[j].name) rfl (by show (⟨(s.people[j].name).toArray⟩:ByteArray).size<=maxLen;rw [bs_size];exact q1))
   have HB1:=Lh hb
   have hlm:=HNS.out.2.2
   rw [hxa] at c2
   clear q0 q1 hjn hnj hxa
   generalize s.people[j].name=nm at HT HF e0
   go_wp2_with (at_builtin;go_must (refine wpList_append_oneO rfl rfl _ _ 47 rfl 9 i0 _ 1 16 Tryz.underlying47 hi hz0 hz1 hz2 rfl (by decide) (.slice oa j ocap) ((ns.take j).map strD) (strD nm) [.string ⟨nm.toArray⟩] 9 rfl rfl HO.out HF.out (by have:=HBX.out.lt;omega) rfl (by rw [HLN.out];unfold maxLen;omega) (by rw [HLN.out];omega) ?_);intro ao cap w5 hon hb5;rw [HLN.out] at hon ⊢;have HON:=Lh (aI hon (aI (HB1.out.trans (hb5.mono (by omega))) (show SchBox w5 w.heap.size s x from (hb5.block _ (by omega)).trans HBX.out)));clear hon hb5)
   refine ⟨⟨j+1,by omega,by go_num,HON.out.2.1,Lh HON.out.2.2,Lh ?_⟩,by simp [intOf];omega⟩
   rw [HT.out];exact HON.out.1
  ·have HL:Hid (ns.take j=ns/\j=ns.length):=Lh ⟨List.take_of_length_le (by have:=HNS.out.2.1;omega),by have:=HNS.out.2.1;omega⟩
   have HB1:=Lh hb
   go_wp2_with fail
   go_ret
   have h:=HO.out
   rw [HL.out.1] at h
   obtain ⟨x0,h0,h1⟩:=h.onto.sl (by rw [widths_map strD_flat,List.length_map])
   rw [List.length_map,<- HL.out.2] at h0
   refine ⟨x0,?_,h1,HB1.out⟩
   show Ending.returned (.slice oa j ocap)=_
   rw [h0,SlA.val,<- HL.out.2]

theorem rnames_5 (s:Schl) (x:SchA) (w:World) (hs:SlIn w (·<w.heap.size) (s.groups.map Grp.toD) x.groups) (hl:s.groups.length<=2000000) (hN:∀ (j:Nat) (hj:j<s.groups.length),w.cell? ⟨x.groups.b,x.groups.o+j*2,none⟩=some (.string ⟨s.groups[j].name.toArray⟩)/\s.groups[j].name.length<=maxLen) :
  Calls Tryz.prog 40 #[.agg (x.cells s).toArray,.int .i64 5] w fun e w'=>∃ x0:SlA,e=.returned (.slice x0.a (s.groups.map Grp.name).length x0.cap)/\SlIn w' (·<w'.heap.size) ((s.groups.map Grp.name).map strD) x0/\Below w.heap.size w w':=by
 have HSL:=Lh hs.at_
 have HN:=Lh hN
 have hbx:SchBox (w.alloc (.cells (x.cells s).toArray 28)) w.heap.size s x:=by unfold SchBox;rw [heap_get,if_pos rfl]
 have HBX:=Lh hbx
 obtain ⟨i0,hi,hz0,hz1,hz2⟩:=info_parts infoStr0
 obtain ⟨ns,hns⟩:∃ ns,ns=s.groups.map Grp.name:=⟨_,rfl⟩
 have hln:ns.length=s.groups.length:=by rw [hns,List.length_map]
 have HNS:=Lh (aI hns (aI hln hl))
 rw [<- hns]
 clear hs hN hbx hns hln hl
 simp only [SchA.cells,SlA.val] at HBX ⊢
 go_enter Tryz.func40,Tryz.ntmps40
 go_wp2_with fail
 go_loopw [5,10] (fun v i wr=>∃ j:Nat,j<=s.groups.length/\i=.int .i64 j/\Below w.heap.size w wr/\Hid (SchBox wr w.heap.size s x)/\Hid (OwnN wr (w.heap.size+1) (fun _=>False) 9 1 v ((ns.take j).map strD))) (fun _ i _=>s.groups.length - (intOf i).toNat)
 case atStart=>exact ⟨0,Nat.zero_le _,rfl,(Below.refl _ _).alloc (Nat.le_refl _) _,HBX,Lh (OwnN.nil _ _ _ _ _ (fun _ h=>h.elim))⟩
 case round =>
  obtain ⟨j,hj,rfl,hb,HBX,HO⟩:=hrel
  obtain ⟨c0,c1,c2,c3,c4⟩:=HBX.out.cells
  obtain ⟨oa,ocap,ho⟩:=HO.out.form
  subst ho
  have hlen:((ns.take j).map strD).length=j:=by rw [List.length_map,List.length_take];have:=HNS.out.2.1;omega
  rw [hlen] at HO ⊢
  have HLN:=Lh hlen
  clear hlen
  by_cases hlt:j<s.groups.length
  ·obtain ⟨hxa,hbl⟩:=HSL.out (by rw [List.length_map];omega)
   obtain ⟨q0,q1⟩:=HN.out j hlt
   have e0:=(hb.cell (p:=⟨x.groups.b,x.groups.o+j*2,none⟩) hbl).trans q0
   have hjn:j<ns.length:=by have:=HNS.out.2.1;omega
   have hnj:ns[j]=s.groups[j].name:=by have h:=HNS.out.1;subst h;simp
   have HT:=Lh (str_take hjn)
   rw [hnj] at HT
   have HF:=Lh (DsAt.flat1 (w:=wr) (F:=fun _=>False) (x:=strD s.groups[j].name) rfl (by show (⟨(s.groups[j].name).toArray⟩:ByteArray).size<=maxLen;rw [bs_size];exact q1))
   have HB1:=Lh hb
   have hlm:=HNS.out.2.2
   rw [hxa] at c3
   clear q0 q1 hjn hnj hxa
   generalize s.groups[j].name=nm at HT HF e0
   go_wp2_with (at_builtin;go_must (refine wpList_append_oneO rfl rfl _ _ 47 rfl 9 i0 _ 1 16 Tryz.underlying47 hi hz0 hz1 hz2 rfl (by decide) (.slice oa j ocap) ((ns.take j).map strD) (strD nm) [.string ⟨nm.toArray⟩] 9 rfl rfl HO.out HF.out (by have:=HBX.out.lt;omega) rfl (by rw [HLN.out];unfold maxLen;omega) (by rw [HLN.out];omega) ?_);intro ao cap w5 hon hb5;rw [HLN.out] at hon ⊢;have HON:=Lh (aI hon (aI (HB1.out.trans (hb5.mono (by omega))) (show SchBox w5 w.heap.size s x from (hb5.block _ (by omega)).trans HBX.out)));clear hon hb5)
   refine ⟨⟨j+1,by omega,by go_num,HON.out.2.1,Lh HON.out.2.2,Lh ?_⟩,by simp [intOf];omega⟩
   rw [HT.out];exact HON.out.1
  ·have HL:Hid (ns.take j=ns/\j=ns.length):=Lh ⟨List.take_of_length_le (by have:=HNS.out.2.1;omega),by have:=HNS.out.2.1;omega⟩
   have HB1:=Lh hb
   go_wp2_with fail
   go_ret
   have h:=HO.out
   rw [HL.out.1] at h
   obtain ⟨x0,h0,h1⟩:=h.onto.sl (by rw [widths_map strD_flat,List.length_map])
   rw [List.length_map,<- HL.out.2] at h0
   refine ⟨x0,?_,h1,HB1.out⟩
   show Ending.returned (.slice oa j ocap)=_
   rw [h0,SlA.val,<- HL.out.2]

theorem rnames_lit (s:Schl) (x:SchA) (sort:Int) (w:World) (h:sort=6∨sort=7) :
  Calls Tryz.prog 40 #[.agg (x.cells s).toArray,.int .i64 sort] w fun e w'=>∃ x0:SlA,e=.returned (.slice x0.a (schNames s sort).length x0.cap)/\SlIn w' (·<w'.heap.size) ((schNames s sort).map strD) x0/\Below w.heap.size w w':=by
 have one:∀ (W:World) (F:Nat->Prop) (l:List Bs),(∀ n∈l,n.length<=maxLen)->DsAt W F (l.map strD) (l.map (fun n=>Value.string ⟨n.toArray⟩)):=fun W F l hl=>by
  induction l with
  | nil=>rw [List.map_nil,List.map_nil,DsAt]
  | cons n r ih =>
   rw [List.map_cons,List.map_cons,DsAt]
   exact ⟨[_],_,rfl,by unfold strD;rw [DAt];exact ⟨rfl,by rw [bs_size];exact hl n (by simp)⟩,ih (fun m hm=>hl m (by simp [hm]))⟩
 have ONE:=Lh one
 clear one
 simp only [SchA.cells,SlA.val]
 have e6:schNames s 6=(List.range 7).map (fun i=>[100,97,121,UInt8.ofNat (48+i)]):=by unfold schNames;rw [if_neg (by decide),if_neg (by decide),if_neg (by decide),if_neg (by decide),if_neg (by decide),if_pos rfl]
 have e7:schNames s 7=(List.range 8).map (fun i=>[104,111,117,115,101,UInt8.ofNat (48+i)]):=by unfold schNames;rw [if_neg (by decide),if_neg (by decide),if_neg (by decide),if_neg (by decide),if_neg (by decide),if_neg (by decide),if_pos rfl]
 have E6:=Lh e6
 have E7:=Lh e7
 clear e6 e7
 rcases h with rfl | rfl
 ·go_enter Tryz.func40,Tryz.ntmps40
  go_wp2_with fail
  go_ret
  have hb:Below w.heap.size w (w.alloc (.cells #[.slice x.slots.a s.slots.length x.slots.cap,.slice x.rooms.a s.rooms.length x.rooms.cap,.slice x.people.a s.people.length x.people.cap,.slice x.groups.a s.groups.length x.groups.cap,.slice x.lessons.a s.lessons.length x.lessons.cap] 28)):=(Below.refl _ _).alloc (Nat.le_refl _) _
  exact ⟨⟨some ⟨w.heap.size+1,0,none⟩,w.heap.size+1,0,7⟩,rfl,SlIn.lit (cs:=(schNames s 6).map (fun n=>Value.string ⟨n.toArray⟩)) (by rw [heap_get,if_pos (by simp)];rfl) (ONE.out _ _ _ (by rw [E6.out];decide)) (by simp) (by rw [E6.out];decide) (by decide),hb.alloc (by simp) _⟩
 ·go_enter Tryz.func40,Tryz.ntmps40
  go_wp2_with fail
  go_ret
  have hb:Below w.heap.size w (w.alloc (.cells #[.slice x.slots.a s.slots.length x.slots.cap,.slice x.rooms.a s.rooms.length x.rooms.cap,.slice x.people.a s.people.length x.people.cap,.slice x.groups.a s.groups.length x.groups.cap,.slice x.lessons.a s.lessons.length x.lessons.cap] 28)):=(Below.refl _ _).alloc (Nat.le_refl _) _
  exact ⟨⟨some ⟨w.heap.size+1,0,none⟩,w.heap.size+1,0,8⟩,rfl,SlIn.lit (cs:=(schNames s 7).map (fun n=>Value.string ⟨n.toArray⟩)) (by rw [heap_get,if_pos (by simp)];rfl) (ONE.out _ _ _ (by rw [E7.out];decide)) (by simp) (by rw [E7.out];decide) (by decide),hb.alloc (by simp) _⟩

theorem rnames_any (s:Schl) (x:SchA) (sort:Int) (w:World) (hs:SchIn w (·<w.heap.size) s x) (hsm:SchSmall s) :
  Calls Tryz.prog 40 #[.agg (x.cells s).toArray,.int .i64 sort] w fun e w'=>∃ x0:SlA,e=.returned (.slice x0.a (schNames s sort).length x0.cap)/\SlIn w' (·<w'.heap.size) ((schNames s sort).map strD) x0/\Below w.heap.size w w':=by
 by_cases h1:sort=1
 ·subst h1
  exact rnames_1 s x w hs.lessons hsm.lessons (fun j hj=>by
   obtain ⟨_,_,_,_,h3,h4⟩:=hs.lessons.lsn j hj
   exact ⟨h4.three.1,h3⟩)
 by_cases h2:sort=2
 ·subst h2
  exact rnames_2 s x w hs.slots hsm.slots (fun j hj=>by
   obtain ⟨_,_,_,h4,h5⟩:=hs.slots.flat Slt.flatT
   have h6:=h5 _ (List.getElem_mem hj)
   refine ⟨(CellsAt.three (h4 j hj)).1,?_⟩
   have h7:=h6.1
   rwa [D.fine,bs_size] at h7)
 by_cases h3:sort=3
 ·subst h3
  exact rnames_3 s x w hs.rooms hsm.rooms (fun j hj=>by
   obtain ⟨_,_,_,_,h3,h4⟩:=hs.rooms.rom j hj
   exact ⟨h4.four.1,h3⟩)
 by_cases h4:sort=4
 ·subst h4
  exact rnames_4 s x w hs.people hsm.people (fun j hj=>by
   obtain ⟨_,_,h3,h4⟩:=hs.people.psn j hj
   exact ⟨h4.two.1,h3⟩)
 by_cases h5:sort=5
 ·subst h5
  exact rnames_5 s x w hs.groups hsm.groups (fun j hj=>by
   obtain ⟨_,_,_,h4,h5⟩:=hs.groups.flat Grp.flatT
   have h6:=h5 _ (List.getElem_mem hj)
   refine ⟨(CellsAt.two (h4 j hj)).1,?_⟩
   have h7:=h6.1
   rwa [D.fine,bs_size] at h7)
 by_cases h6:sort=6∨sort=7
 ·exact rnames_lit s x sort w h6
 have e:schNames s sort=[]:=by unfold schNames;rw [if_neg h1,if_neg h2,if_neg h3,if_neg h4,if_neg h5,if_neg (by omega),if_neg (by omega)]
 rw [e]
 exact rnames_none s x sort w (by omega)
end Go.Proofs.YtncnnbmeacpboaaGreatDoor
/- eval: many, broad. -/
namespace Go.Chalk
open Go.RowKit
end Go.Chalk
namespace Go.Proofs.YtncnnbmeacpboaaGreatDoor
open Go.RowKit Go.Chalk
end Go.Proofs.YtncnnbmeacpboaaGreatDoor
/- The reference's Count, Many and Broad: they answer a number that is not great. -/
namespace Go.Proofs.YtncnnbmeacpboaaGreatDoor
open Go.RowKit Go.Chalk
end Go.Proofs.YtncnnbmeacpboaaGreatDoor
/- The reference's Size and Few of a formula: they answer. -/
namespace Go.Proofs.YtncnnbmeacpboaaGreatDoor
open Go.RowKit Go.Chalk
def FrmBox (W:World) (b:Nat) (f:Frm) (y:FrmA):Prop:=W.heap[b]?=some (.cells (y.cells f).toArray 64 (0,0))
theorem FrmBox.below {W W':World} {b:Nat} {f:Frm} {y:FrmA} (h:FrmBox W b f y) (hb:Below W.heap.size W W'):FrmBox W' b f y:=(hb.block _ (gS h).1).trans h
theorem FrmBox.lt {W:World} {b:Nat} {f:Frm} {y:FrmA} (h:FrmBox W b f y):b<W.heap.size:=(gS h).1
theorem FrmBox.cells {W:World} {b:Nat} {f:Frm} {y:FrmA} (h:FrmBox W b f y):W.cell? ⟨b,0,none⟩=some (.int .i64 f.kind)/\W.cell? ⟨b,1,none⟩=some (.string ⟨f.name.toArray⟩)/\W.cell? ⟨b,2,none⟩=some (.int .i64 f.n)/\W.cell? ⟨b,3,none⟩=some (.slice y.t.a f.terms.length y.t.cap)/\W.cell? ⟨b,4,none⟩=some (.slice y.b.a f.binds.length y.b.cap)/\W.cell? ⟨b,5,none⟩=some (.slice y.l.a f.l.length y.l.cap) :=
 ⟨cH h rfl,cH h rfl,cH h rfl,cH h rfl,cH h rfl,cH h rfl⟩

theorem rsize_any (m:Nat):∀ (f:Frm) (y:FrmA) (w:World),f.size<=m->f.size<=2000000->FrmIn w (·<w.heap.size) f y ->
  Calls Tryz.prog 39 #[ndV (f,y)] w fun e w'=>∃ n:Int,e=.returned (.int .i64 n)/\Below w.heap.size w w':=by
 induction m with
 | zero=>intro f _ _ h;have:=f.size_pos;omega
 | succ m ih =>
  rintro ⟨kind,name,n,terms,binds,fl⟩ y w hm hsz hy
  rw [Frm.size] at hm hsz
  have hll:=length_le_fsizes fl
  have hba:Below w.heap.size w (w.alloc (.cells (y.cells (.mk kind name n terms binds fl)).toArray 64)):=(Below.refl _ _).alloc (Nat.le_refl _) _
  have hby:FrmBox (w.alloc (.cells (y.cells (.mk kind name n terms binds fl)).toArray 64)) w.heap.size (.mk kind name n terms binds fl) y:=by unfold FrmBox;rw [heap_get,if_pos rfl]
  have HFI:Hid (∀ (j:Nat) (hj:j<fl.length),∃ y1:FrmA,FrmIn w (·<w.heap.size) fl[j] y1/\CellsAt w y.l.b (y.l.o+j*6) (y1.cells fl[j])):=Lh (fun j hj=>hy.l.frm j hj)
  have HFS:Hid (SlAt (·<w.heap.size) y.l.a y.l.b y.l.o fl.length):=Lh (by have:=hy.l.at_;rw [List.length_map] at this;exact this)
  have HIH:=Lh (fun (j:Nat) (hj:j<fl.length) (y1:FrmA) (W:World) (hW:Below w.heap.size w W) (h1:FrmIn w (·<w.heap.size) fl[j] y1)=>ih fl[j] y1 W (by have:=size_le_fsizes fl j hj;omega) (by have:=size_le_fsizes fl j hj;omega) (h1.later hW hW.size))
  have HB:=Lh (aI hba hby)
  clear ih hy hba hby
  simp only [ndV,FrmA.cells,SlA.val,Frm.kind,Frm.name,Frm.n,Frm.terms,Frm.binds,Frm.l] at HB ⊢
  go_enter Tryz.func39,Tryz.ntmps39
  go_wp2_with fail
  go_loopw [3,4] (fun nn i wr=>∃ (j:Nat) (q:Int),j<=fl.length/\i=.int .i64 j/\nn=.int .i64 q/\Below w.heap.size w wr/\Hid (FrmBox wr w.heap.size (.mk kind name n terms binds fl) y)) (fun _ i _=>fl.length - (intOf i).toNat)
  case atStart=>exact ⟨0,1,Nat.zero_le _,rfl,rfl,HB.out.1,Lh HB.out.2⟩
  case round =>
   obtain ⟨j,q,hj,rfl,rfl,hb,HBX⟩:=hrel
   have HB0:=Lh hb
   obtain ⟨_,_,_,_,_,b5⟩:=HBX.out.cells
   simp only [Frm.l] at b5
   by_cases hlt:j<fl.length
   ·obtain ⟨y1,hy1,hy2⟩:=HFI.out j hlt
    obtain ⟨hxa,hFb⟩:=HFS.out (by omega)
    have HCL:=Lh (HIH.out j hlt y1 wr hb hy1)
    obtain ⟨e0,e1,e2,e3,e4,e5⟩:=(hy2.agree (agree_of_below hb) hFb).six
    rw [hxa] at b5
    clear hy1 hy2 hFb hxa hb
    generalize fl[j]=fe at HCL e0 e1 e2 e3 e4 e5
    obtain ⟨kind1,name1,n1,terms1,binds1,fl1⟩:=fe
    simp only [ndV,FrmA.cells,SlA.val,Frm.kind,Frm.name,Frm.n,Frm.terms,Frm.binds,Frm.l] at HCL e0 e1 e2 e3 e4 e5
    go_wp2_with fail
    refine HCL.out.mono ?_
    rintro e w1 ⟨q1,rfl,hb1⟩
    have HC1:=Lh (aI (HB0.out.trans (hb1.mono HB0.out.size)) (HBX.out.below hb1))
    clear hb1 e0 e1 e2 e3 e4 e5 b5
    go_wp2_with fail
    exact ⟨⟨j+1,_,by omega,by go_num,rfl,HC1.out.1,Lh HC1.out.2⟩,by simp [intOf];omega⟩
   ·clear hb
    go_wp2_with fail
    go_ret
    exact ⟨q,rfl,HB0.out⟩

theorem rfew8_any (m:Nat):∀ (f:Frm) (y:FrmA) (w:World),f.size<=m->f.size<=2000000->FrmIn w (·<w.heap.size) f y ->
  Calls Tryz.prog 21 #[ndV (f,y)] w fun e w'=>∃ b:Bool,e=.returned (.bool b)/\Below w.heap.size w w':=by
 induction m with
 | zero=>intro f _ _ h;have:=f.size_pos;omega
 | succ m ih =>
  rintro ⟨kind,name,n,terms,binds,fl⟩ y w hm hsz hy
  have hss:=hsz
  rw [Frm.size] at hm hsz
  have hll:=length_le_fsizes fl
  have hba:Below w.heap.size w (w.alloc (.cells (y.cells (.mk kind name n terms binds fl)).toArray 64)):=(Below.refl _ _).alloc (Nat.le_refl _) _
  have hby:FrmBox (w.alloc (.cells (y.cells (.mk kind name n terms binds fl)).toArray 64)) w.heap.size (.mk kind name n terms binds fl) y:=by unfold FrmBox;rw [heap_get,if_pos rfl]
  have HFI:Hid (∀ (j:Nat) (hj:j<fl.length),∃ y1:FrmA,FrmIn w (·<w.heap.size) fl[j] y1/\CellsAt w y.l.b (y.l.o+j*6) (y1.cells fl[j])):=Lh (fun j hj=>hy.l.frm j hj)
  have HFS:Hid (SlAt (·<w.heap.size) y.l.a y.l.b y.l.o fl.length):=Lh (by have:=hy.l.at_;rw [List.length_map] at this;exact this)
  have HSZ:=Lh (rsize_any _ (.mk kind name n terms binds fl) y _ (Nat.le_refl _) hss (hy.later hba hba.size))
  have HIH:=Lh (fun (j:Nat) (hj:j<fl.length) (y1:FrmA) (W:World) (hW:Below w.heap.size w W) (h1:FrmIn w (·<w.heap.size) fl[j] y1)=>ih fl[j] y1 W (by have:=size_le_fsizes fl j hj;omega) (by have:=size_le_fsizes fl j hj;omega) (h1.later hW hW.size))
  have HB:=Lh (aI hba hby)
  obtain ⟨b0,b1,b2,b3,b4,b5⟩:=hby.cells
  have h1:(4<(fl.length:Int)/\4<fl.length)∨(decide (4<(fl.length:Int))=false):=by
   by_cases h:4<fl.length
   ·exact .inl ⟨by omega,h⟩
   ·exact .inr (decide_eq_false (by omega))
  have h2:(4<(terms.length:Int)/\4<terms.length)∨(decide (4<(terms.length:Int))=false):=by
   by_cases h:4<terms.length
   ·exact .inl ⟨by omega,h⟩
   ·exact .inr (decide_eq_false (by omega))
  have h3:(10<(binds.length:Int)/\10<binds.length)∨(decide (10<(binds.length:Int))=false):=by
   by_cases h:10<binds.length
   ·exact .inl ⟨by omega,h⟩
   ·exact .inr (decide_eq_false (by omega))
  have H1:=Lh h1
  have H2:=Lh h2
  have H3:=Lh h3
  clear ih hy hba hby h1 h2 h3 hss
  simp only [ndV,FrmA.cells,SlA.val,Frm.kind,Frm.name,Frm.n,Frm.terms,Frm.binds,Frm.l] at HB HSZ b0 b1 b2 b3 b4 b5 ⊢
  go_enter Tryz.func21,Tryz.ntmps21
  rcases H1.out with ⟨p1,_⟩ | p1
  ·go_wp2_with fail
   go_ret
   exact ⟨false,rfl,HB.out.1⟩
  rcases H2.out with ⟨p2,_⟩ | p2
  ·go_wp2_with fail
   go_ret
   exact ⟨false,rfl,HB.out.1⟩
  rcases H3.out with ⟨p3,_⟩ | p3
  ·go_wp2_with fail
   go_ret
   exact ⟨false,rfl,HB.out.1⟩
  go_wp2_with fail
  refine HSZ.out.mono ?_
  rintro e w1 ⟨q1,rfl,hb1⟩
  have HC1:=Lh (aI (HB.out.1.trans (hb1.mono HB.out.1.size)) (HB.out.2.below hb1))
  clear hb1 b0 b1 b2 b3 b4 b5
  by_cases hq:(300:Int)<q1
  ·go_wp2_with fail
   go_ret
   exact ⟨false,rfl,HC1.out.1⟩
  have hq':decide ((300:Int)<q1)=false:=decide_eq_false hq
  clear hq
  go_wp2_with fail
  go_loopw [3] (fun i wr=>∃ j:Nat,j<=fl.length/\i=.int .i64 j/\Below w.heap.size w wr/\Hid (FrmBox wr w.heap.size (.mk kind name n terms binds fl) y)) (fun i _=>fl.length - (intOf i).toNat)
  case atStart=>exact ⟨0,Nat.zero_le _,rfl,HC1.out.1,Lh HC1.out.2⟩
  case round =>
   obtain ⟨j,hj,rfl,hb,HBX⟩:=hrel
   have HB0:=Lh hb
   obtain ⟨_,_,_,_,_,b5⟩:=HBX.out.cells
   simp only [Frm.l] at b5
   by_cases hlt:j<fl.length
   ·obtain ⟨y1,hy1,hy2⟩:=HFI.out j hlt
    obtain ⟨hxa,hFb⟩:=HFS.out (by omega)
    have HCL:=Lh (HIH.out j hlt y1 wr hb hy1)
    obtain ⟨e0,e1,e2,e3,e4,e5⟩:=(hy2.agree (agree_of_below hb) hFb).six
    rw [hxa] at b5
    clear hy1 hy2 hFb hxa hb
    generalize fl[j]=fe at HCL e0 e1 e2 e3 e4 e5
    obtain ⟨kind1,name1,n1,terms1,binds1,fl1⟩:=fe
    simp only [ndV,FrmA.cells,SlA.val,Frm.kind,Frm.name,Frm.n,Frm.terms,Frm.binds,Frm.l] at HCL e0 e1 e2 e3 e4 e5
    go_wp2_with fail
    refine HCL.out.mono ?_
    rintro e w1 ⟨q1,rfl,hb1⟩
    have HC1:=Lh (aI (HB0.out.trans (hb1.mono HB0.out.size)) (HBX.out.below hb1))
    clear hb1 e0 e1 e2 e3 e4 e5 b5
    cases q1
    ·go_wp2_with fail
     go_ret
     exact ⟨false,rfl,HC1.out.1⟩
    ·go_wp2_with fail
     exact ⟨⟨j+1,by omega,by go_num,HC1.out.1,Lh HC1.out.2⟩,by simp [intOf];omega⟩
   ·clear hb
    go_wp2_with fail
    go_ret
    exact ⟨true,rfl,HB0.out⟩
end Go.Proofs.YtncnnbmeacpboaaGreatDoor
/- A list that grows in a box, while its elements lead into memory that is taken over round by round. -/
namespace Go.Chalk
open Go.RowKit
variable {P:Program}
def BoxOwn (W:World) (H:Nat) (t e:TypeId) (sz lo:Nat) (xs:List D) (T:Nat->Prop):Prop :=
 ∃ (v:Value) (r:Option Nat),W.heap[H]?=some (.cells #[v] t (0,0))/\T H/\(∀ k,r=some k->T k/\k ≠ H)/\(∀ k,T k->lo<=k/\k<W.heap.size)/\Chalk.Own W (fun k=>T k/\k ≠ H/\r ≠ some k) e sz v r xs
theorem BoxOwn.kept {W W':World} {H:Nat} {t e:TypeId} {sz lo:Nat} {xs:List D} {T S:Nat->Prop} (h:BoxOwn W H t e sz lo xs T) (hm:Mod S W W') (hS:∀ k,S k->¬ T k):BoxOwn W' H t e sz lo xs T:=by
 obtain ⟨v,r,h1,h2,h3,h4,h5⟩:=h
 exact ⟨v,r,heap_kept h1 hm (fun h=>hS _ h h2),h2,h3,fun k hk=>⟨(h4 k hk).1,Nat.lt_of_lt_of_le (h4 k hk).2 hm.size⟩,h5.kept hm (fun k hk hk'=>hS k hk' hk.1) (fun k hk hk'=>hS k hk' (h3 k hk).1)⟩
theorem BoxOwn.take {W:World} {H:Nat} {t e:TypeId} {sz lo:Nat} {xs:List D} {T S:Nat->Prop} (h:BoxOwn W H t e sz lo xs T) (hS:∀ k,S k->lo<=k/\k<W.heap.size/\¬ T k):BoxOwn W H t e sz lo xs (fun k=>T k∨S k):=by
 obtain ⟨v,r,h1,h2,h3,h4,h5⟩:=h
 refine ⟨v,r,h1,.inl h2,fun k hk=>⟨.inl (h3 k hk).1,(h3 k hk).2⟩,fun k hk=>?_,h5.widen (fun k hk=>⟨.inl hk.1,hk.2⟩) (fun k hk hk'=>hk'.2.2 hk) (fun k hk=>?_)⟩
 ·rcases hk with hk | hk
  ·exact h4 k hk
  ·exact ⟨(hS k hk).1,(hS k hk).2.1⟩
 ·rcases hk.1 with hk | hk
  ·exact (h4 k hk).2
  ·exact (hS k hk).2.1
theorem BoxOwn.read {W:World} {H:Nat} {t e:TypeId} {sz lo:Nat} {xs:List D} {T:Nat->Prop} (h:BoxOwn W H t e sz lo xs T) (hw:widths xs=xs.length*sz):∃ x:SlA,W.heap[H]?=some (.cells #[x.val xs.length] t (0,0))/\SlIn W T xs x:=by
 obtain ⟨v,r,h1,h2,h3,h4,h5⟩:=h
 obtain ⟨x,e,hx⟩:=DAt.sl_iff.1 (h5.read (G:=T) (fun k hk=>hk.1) (fun k hk=>(h3 k hk).1) hw)
 simp only [List.cons.injEq,and_true] at e
 exact ⟨x,by rw [h1,e],hx⟩
theorem BoxOwn.low {W:World} {H:Nat} {t e:TypeId} {sz lo:Nat} {xs:List D} {T:Nat->Prop} (h:BoxOwn W H t e sz lo xs T):∀ k,T k->lo<=k/\k<W.heap.size:=by
 obtain ⟨_,_,_,_,_,h4,_⟩:=h;exact h4
end Go.Chalk
/- eval: may. -/
namespace Go.Proofs.YtncnnbmeacpboaaGreatDoor
open Go.RowKit Go.Chalk
end Go.Proofs.YtncnnbmeacpboaaGreatDoor
