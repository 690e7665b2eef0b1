/- Joined texts: XParts. -/
import Derived.Test.YtjjkfgjnadaheaaGreatDoorG10
import Derived.Test.YtjjkfgjnadaheaaGreatDoorLGGate2
import Derived.Test.YtjjkfgjnadaheaaGreatDoorChecked
set_option maxHeartbeats 2000000
set_option maxRecDepth 100000
set_option linter.unusedVariables false
set_option linter.unusedSimpArgs false
/- flat.parts: the iterator over a tree's nodes, in preorder. -/
namespace Go.Proofs.YtjjkfgjnadaheaaGreatDoor
open Go.RowKit Go.Chalk
attribute [local go_sem] Oper.semAt_some
theorem parts_any (x0 x1 x2 x3:Value) (w:World) :
  Calls Tryz.prog 202 #[.agg #[x0,x1,x2,x3]] w fun e w'=>e=.returned (.func (.func 234) #[] #[.pointer (some ⟨w.heap.size,0,none⟩)])/\w.alloc (.cells #[x0,x1,x2,x3] 39)=w':=by
 have hmf:∀ (fn:Fn) (first cap:Array Value) (w:World),(Instr.makeFunc fn first cap).run Tryz.prog w=.ok (.func fn first cap) w:=fun _ _ _ _=>rfl
 go_enter Tryz.func202,Tryz.ntmps202
 go_wp2_with fail
 go_ret
 exact ⟨rfl,rfl⟩

structure PartsRel (W W':World) (T T1:Nat->Prop) (J:Nat->(Nat->Prop)->World->Prop) (l:Nat) (c:Nat) (ds:List Nat):Prop where
 ext:Ext T T1 W W'
 mod:Chalk.Mod T W W'
 inv:J c T1 W'
 size:W.heap.size<W'.heap.size
 fbx:W'.heap[W.heap.size]?=some (.cells #[.func (.yield l) #[] #[]] 214 (0,0))
 nfb:¬ T1 W.heap.size
 nodup:ds.Nodup
 marks:∀ d∈ds,W'.heap[d]?=some (.deferred (some []))/\¬ T1 d/\W.heap.size<d

theorem PartsRel.next {W Wr W3 A:World} {T T1 T':Nat->Prop} {J J':Nat->(Nat->Prop)->World->Prop} {l c c' D0:Nat} {ds:List Nat} (R:PartsRel W Wr T T1 J l c ds) (hs3:Wr.heap.size<=W3.heap.size) (hM3:Chalk.Mod (fun _=>False) Wr W3) (hD0:W3.heap.size<=D0) (hnD:¬ T' D0) (he:Ext T1 T' W3 A) (hm:Chalk.Mod T1 W3 A)
  (hj:J' c' T' A) (hdd:A.heap[D0]?=some (.deferred (some []))):PartsRel W A T T' J' l c' (D0 :: ds):=by
 have hMr:Chalk.Mod T1 Wr A:=(hM3.mono (T:=T1) (fun _ h=>h.elim)).trans hm (fun _ _ h=>h)
 have hs:=hm.size
 have hsw:=R.size
 have hlt:∀ d∈ds,d<Wr.heap.size:=fun d hd=>(gS (R.marks d hd).1).1
 have hEr:Ext T1 T' Wr A:=fun k hk=>by rcases he k hk with h | h;exact .inl h;exact .inr (by omega)
 refine ⟨R.ext.trans hEr (by omega) (by omega),R.mod.ext hMr R.ext,hj,by omega,heap_kept R.fbx hMr R.nfb,hEr.not R.size R.nfb,List.nodup_cons.2 ⟨fun h=>by have:=hlt _ h;omega,R.nodup⟩,fun d hd=>?_⟩
 rcases List.mem_cons.1 hd with rfl | hd
 ·exact ⟨hdd,hnD,by omega⟩
 ·exact ⟨heap_kept (R.marks d hd).1 hMr (R.marks d hd).2.1,hEr.not (hlt d hd) (R.marks d hd).2.1,(R.marks d hd).2.2⟩
theorem PartsRel.leave {W A W':World} {T T1:Nat->Prop} {J:Nat->(Nat->Prop)->World->Prop} {l c:Nat} {ds:List Nat} (R:PartsRel W A T T1 J l c ds) (hm:Chalk.Mod (fun k=>k∈ds) A W'):Ext T T1 W W'/\Chalk.Mod T W W'/\∀ k,k∈ds->W.heap.size<=k/\¬ T1 k:=by
 have hs:=hm.size
 refine ⟨fun k hk=>?_,R.mod.trans hm (fun i hi h=>by have:=(R.marks i h).2.2;omega),fun k hk=>⟨Nat.le_of_lt (R.marks k hk).2.2,(R.marks k hk).2.1⟩⟩
 rcases R.ext k hk with h | h
 ·exact .inl h
 ·exact .inr ⟨h.1,by omega⟩

theorem parts1_iter (x:Value) (kind v k:Int) (tl:List Tr) (a:Option Addr) (b o cap:Nat) (w:World) (F:Nat->Prop) (hsl:SlAt F a b o tl.length) (hin:TreesIn w F tl b o) (hmax:tl.length<=2000000)
  (nss:List (List (Tr×Value))) (hnl:nss.length=tl.length) (hsh:∀ (j:Nat) (hj:j<nss.length) (i:Nat) (hi:i<(nss[j]).length),∃ (k0 k1 k2:Int) (a1:Option Addr) (n1 cap1:Nat),((nss[j])[i]).2=.agg #[.int .i64 k0,.int .i64 k1,.int .i64 k2,.slice a1 n1 cap1])
  (hns:∀ (j:Nat) (hj:j<nss.length),∀ (k0 k1 k2:Int) (a1:Option Addr) (n1 cap1:Nat),w.cell? ⟨b,o+j*4,none⟩=some (.int .i64 k0)->w.cell? ⟨b,o+j*4+1,none⟩=some (.int .i64 k1)->w.cell? ⟨b,o+j*4+2,none⟩=some (.int .i64 k2)->w.cell? ⟨b,o+j*4+3,none⟩=some (.slice a1 n1 cap1) ->
   ∀ (W:World) (tb:Nat),Agree F w W->(∀ k,F k->k<W.heap.size)->W.heap[tb]?=some (.cells #[.int .i64 k0,.int .i64 k1,.int .i64 k2,.slice a1 n1 cap1] 39 (0,0)) ->
    Iter Tryz.prog 234 #[.pointer (some ⟨tb,0,none⟩)] (nss[j]).length (fun i=>#[((nss[j])[i]?.getD (.mk 0 0 0 [],undef)).2]) (fun k=>F k∨k=tb) W)
  (W0:World) (tb:Nat) (hag:Agree F w W0) (hF:∀ k,F k->k<W0.heap.size) (htb:W0.heap[tb]?=some (.cells #[.int .i64 kind,.int .i64 v,.int .i64 k,.slice a tl.length cap] 39 (0,0))) (hx:x=.agg #[.int .i64 kind,.int .i64 v,.int .i64 k,.slice a tl.length cap]) (t:Tr) :
  Iter Tryz.prog 234 #[.pointer (some ⟨tb,0,none⟩)] ((t,x) :: nss.flatten).length (fun i=>#[(((t,x) :: nss.flatten)[i]?.getD (.mk 0 0 0 [],undef)).2]) (fun k=>F k∨k=tb) W0:=by
 intro l J Jx T W hAg hD hT hJ hJx hY h0
 subst hx
 have htbW:W.heap[tb]?=some (.cells #[.int .i64 kind,.int .i64 v,.int .i64 k,.slice a tl.length cap] 39 (0,0)):=(hAg tb (.inr rfl)).trans htb
 have htlt:tb<W.heap.size:=(hD tb (.inr rfl)).1
 have q0:W.cell? ⟨tb,0,none⟩=some (.int .i64 kind):=cH htbW rfl
 have q1:W.cell? ⟨tb,1,none⟩=some (.int .i64 v):=cH htbW rfl
 have q2:W.cell? ⟨tb,2,none⟩=some (.int .i64 k):=cH htbW rfl
 have q3:W.cell? ⟨tb,3,none⟩=some (.slice a tl.length cap):=cH htbW rfl
 have hm0:Chalk.Mod T W (W.alloc (.cells #[.func (.yield l) #[] #[]] 214)):=(Chalk.Mod.refl _ _).alloc _
 have hy0:=hY 0 T (W.alloc (.cells #[.func (.yield l) #[] #[]] 214)) (by simp) (hJ _ _ _ _ _ h0 ((Chalk.Mod.refl (fun _=>False) _).alloc _) (fun _ h=>h.elim)) (fun k hk=>by have:=hT k hk;simp;omega)
 simp only [List.getElem?_cons_zero,Option.getD_some] at hy0
 have hfb0:(W.alloc (.cells #[.func (.yield l) #[] #[]] 214)).heap[W.heap.size]?=some (.cells #[.func (.yield l) #[] #[]] 214 (0,0)):=boxed (B:=W.heap.size+1) (Below.refl _ _) (by omega)
 have hnT:¬ T W.heap.size:=fun h=>by have:=hT _ h;omega
 obtain ⟨fn,tmps,assign,body,hy,hR⟩:=hy0
 have HY:=Lh hY
 have HJ:=Lh hJ
 have HJX:=Lh hJx
 have HD:=Lh hD
 have HM0:=Lh hm0
 have HFB:=Lh hfb0
 have HTB:=Lh htbW
 have HAG:=Lh (aI hAg (aI hag hF))
 have HNS:=Lh hns
 have HSH:=Lh hsh
 have HIN:=Lh hin
 have HT:=Lh hT
 clear hY hJ hJx hD hm0 hfb0 htbW hAg hag hF hns hin hT htb h0 hsh
 refine (callsIn_wide (n:=0)).1 (callsIn_of_wp_marks Tryz.func234 rfl trivial ?_)
 simp only [Tryz.ntmps234,List.size_toArray,List.length_cons,List.length_nil,Nat.reduceAdd,Nat.reduceSub,Array.replicate_succ,Array.replicate_zero,List.push_toArray,List.append_toArray,List.nil_append,List.cons_append]
 gi_wp2_with fail
 refine ⟨rfl,hR.mono ?_⟩
 clear hR hy
 rintro e W2 ⟨T1,he,hm,hor⟩
 have hmW:Chalk.Mod T W W2:=HM0.out.trans hm (fun _ _ h=>h)
 have hsz2:=hm.size
 rw [World.size_alloc] at hsz2
 have heW:Ext T T1 W W2:=fun k hk=>by
  rcases he k hk with h | h
  ·exact .inl h
  ·exact .inr (by simp at h;omega)
 rcases hor with ⟨rfl,hj⟩ | ⟨rfl,hj⟩
 rotate_left
 ·gi_wp2_with fail
  refine leaves_marks (v:=.tuple #[]) [] W2 (fun w=>results_none rfl _ _ w) List.nodup_nil (fun _ h=>by cases h) (fun W' hm'=>?_)
  have hm'':Chalk.Mod (fun _=>False) W2 W':=hm'.mono (fun k hk=>by cases hk)
  refine ⟨⟨_,rfl⟩,T1,fun k hk=>?_,hmW.trans hm'' (fun _ _ h=>h.elim),.inr ⟨1,by omega,by simp,HJX.out _ _ _ _ _ hj hm'' (fun _ h=>h.elim)⟩⟩
  rcases heW k hk with h | h
  ·exact .inl h
  ·exact .inr ⟨h.1,by have:=hm''.size;omega⟩
 ·have r3:W2.cell? ⟨tb,3,none⟩=some (.slice a tl.length cap):=by
   have:=heap_kept HTB.out hmW (HD.out tb (.inr rfl)).2
   exact cH this rfl
  have PR:PartsRel W W2 T T1 J l (1+offs nss 0) []:=⟨heW,hmW,by simpa [offs] using hj,by omega,heap_kept HFB.out hm hnT,he.not (by simp) hnT,List.nodup_nil,fun _ h=>by cases h⟩
  have HPR:=Lh PR
  clear PR hj he hm heW hmW hsz2
  gi_wp2_with fail
  refine wpIn_loop (fun a' W'=>∃ (j:Nat) (T1:Nat->Prop) (ds:List Nat) (u4 u5 u14 u15 u16 u17 u18 u19 u20 u21 u22 u23 u24:Value),j<=tl.length/\PartsRel W W' T T1 J l (1+offs nss j) ds /\
   a' = { tmps:=#[.func (.yield l) #[] #[],.pointer (some ⟨tb,0,none⟩),.pointer (some ⟨W.heap.size,0,none⟩),undef,u4,u5,.func (.yield l) #[] #[],.agg #[.int .i64 kind,.int .i64 v,.int .i64 k,.slice a tl.length cap],.bool true,.bool false,.pointer (some ⟨tb,3,none⟩),.slice a tl.length cap,.int .i64 tl.length,.int .i64 j,u14,u15,u16,u17,u18,u19,u20,u21,u22,u23,u24],defers:=ds.map Chalk.mark })
   (fun a' _=>tl.length - (intOf (a'.tmps.getD 13 undef)).toNat) ⟨0,T1,[],_,_,_,_,_,_,_,_,_,_,_,_,_,Nat.zero_le _,HPR.out,rfl⟩ ?_
  clear HPR r3
  rintro a' Wr ⟨j,T1,ds,u4,u5,u14,u15,u16,u17,u18,u19,u20,u21,u22,u23,u24,hj,R,rfl⟩
  have HR:=Lh R
  clear R
  by_cases hlt:j<tl.length
  ·have hAgr:Agree F w Wr:=fun k hk=>(HR.out.mod.block k (HD.out k (.inl hk)).1 (HD.out k (.inl hk)).2).trans ((HAG.out.1 k (.inl hk)).trans (HAG.out.2.1 k hk))
   obtain ⟨rfl,hFb⟩:=hsl (by omega)
   obtain ⟨k0,k1,k2,a1,n1,cap1,c0,c1,c2,c3,htj⟩:=HIN.out j hlt
   have e0:=(cell_agree hAgr (a:=⟨b,o+j*4,none⟩) hFb).trans c0
   have e1:=(cell_agree hAgr (a:=⟨b,o+j*4+1,none⟩) hFb).trans c1
   have e2:=(cell_agree hAgr (a:=⟨b,o+j*4+2,none⟩) hFb).trans c2
   have e3:=(cell_agree hAgr (a:=⟨b,o+j*4+3,none⟩) hFb).trans c3
   have hsW:=HR.out.size
   have hFr:∀ k,F k->k<Wr.heap.size:=fun k hk=>by have:=(HD.out k (.inl hk)).1;omega
   have hseq:=HNS.out j (by omega) k0 k1 k2 a1 n1 cap1 c0 c1 c2 c3 ((Wr.alloc (.cells #[.int .i64 k0,.int .i64 k1,.int .i64 k2,.slice a1 n1 cap1] 39)).alloc (.cells #[.int .i64 k0,.int .i64 k1,.int .i64 k2,.slice a1 n1 cap1] 39)) (Wr.heap.size+1)
    (hAgr.trans (fun k hk=>(Below.heap_alloc _ _ _ (by have:=hFr k hk;simp;omega)).trans (Below.heap_alloc _ _ _ (hFr k hk)))) (fun k hk=>by have:=hFr k hk;simp;omega) (by have:=boxed (w:=Wr.alloc (.cells #[.int .i64 k0,.int .i64 k1,.int .i64 k2,.slice a1 n1 cap1] 39)) (o:=.cells #[.int .i64 k0,.int .i64 k1,.int .i64 k2,.slice a1 n1 cap1] 39) (B:=Wr.heap.size+2) (Below.refl _ _) (by simp);simpa using this)
   have HSEQ:=Lh hseq
   have HFR:=Lh hFr
   have hTr:∀ k,T1 k->k<Wr.heap.size:=HR.out.ext.lt HR.out.mod.size HT.out
   have HTR:=Lh hTr
   clear hseq hFr hAgr c0 c1 c2 c3 htj hTr
   gi_wp2_with fail
   refine ⟨trivial,rfl,(callsIn_wide.2 (parts_any _ _ _ _ _)).mono ?_⟩
   rintro e w' ⟨rfl,rfl⟩
   gi_wp2_with fail
   have hS3:((Wr.alloc (.cells #[.int .i64 k0,.int .i64 k1,.int .i64 k2,.slice a1 n1 cap1] 39)).alloc (.cells #[.int .i64 k0,.int .i64 k1,.int .i64 k2,.slice a1 n1 cap1] 39)).heap.size=Wr.heap.size+2:=by simp
   have hM3:Chalk.Mod (fun _=>False) Wr ((Wr.alloc (.cells #[.int .i64 k0,.int .i64 k1,.int .i64 k2,.slice a1 n1 cap1] 39)).alloc (.cells #[.int .i64 k0,.int .i64 k1,.int .i64 k2,.slice a1 n1 cap1] 39)):=((Chalk.Mod.refl _ _).alloc _).alloc _
   have HS3:=Lh hS3
   have HM3:=Lh hM3
   clear hS3 hM3
   generalize ((Wr.alloc (.cells #[.int .i64 k0,.int .i64 k1,.int .i64 k2,.slice a1 n1 cap1] 39)).alloc (.cells #[.int .i64 k0,.int .i64 k1,.int .i64 k2,.slice a1 n1 cap1] 39))=W3 at HSEQ HS3 HM3 ⊢
   have hjn:j<nss.length:=by omega
   have hoff:=offs_succ nss j hjn
   have hole:=offs_le nss (j+1) (by omega)
   refine wp_range (gf:=234) (lb:=#[.pointer (some ⟨Wr.heap.size+1,0,none⟩)]) rfl (enters_of Tryz.func234 (by kernel_rfl) rfl) HSEQ.out (fun _ _=>rfl) T1
    (fun k hk=>?hD) (fun k hk=>?hT) (fun i T' W'=>J (1+offs nss j+i) T' W') (fun c i T' W'=>c=.ret/\Jx (1+offs nss j+i) T' W') ?hI ?hIx ?h0
    (fun l' i a' _ W'=>∃ (bx:Nat) (y:Tr×Value),(nss[j])[i]?=some y/\bx ≠ l'/\W'.heap[bx]?=some (.cells y.2.cells 39 (0,0))/\a' = { tmps:=#[.func (.yield l) #[] #[],.pointer (some ⟨tb,0,none⟩),.pointer (some ⟨W.heap.size,0,none⟩),undef,.pointer (some ⟨Wr.heap.size,0,none⟩),.pointer (some ⟨bx,0,none⟩),.func (.yield l) #[] #[],.agg #[.int .i64 kind,.int .i64 v,.int .i64 k,.slice (some ⟨b,o,none⟩) tl.length cap],.bool true,.bool false,.pointer (some ⟨tb,3,none⟩),.slice (some ⟨b,o,none⟩) tl.length cap,.int .i64 tl.length,.int .i64 j,.bool true,.pointer (some ⟨b,o+j*4,none⟩),.agg #[.int .i64 k0,.int .i64 k1,.int .i64 k2,.slice a1 n1 cap1],.agg #[.int .i64 k0,.int .i64 k1,.int .i64 k2,.slice a1 n1 cap1],.func (.func 234) #[] #[.pointer (some ⟨Wr.heap.size+1,0,none⟩)],y.2,u20,u21,u22,u23,u24],defers:=[] }) ?hAx ?assign ?body ?done ?stop
   case hD =>
    rcases hk with hk | hk
    ·have:=HFR.out k hk
     exact ⟨by rw [HS3.out];omega,HR.out.ext.not (HD.out k (.inl hk)).1 (HD.out k (.inl hk)).2⟩
    ·subst hk
     exact ⟨by rw [HS3.out];omega,fun h=>by have:=HTR.out _ h;omega⟩
   case hT=>have:=HTR.out k hk;rw [HS3.out];omega
   case hI=>exact fun i T' A B S hi hm hS=>HJ.out _ _ _ _ _ hi hm (fun k hk=>⟨by have:=(hS k hk).1;rw [HS3.out] at this;omega,(hS k hk).2⟩)
   case hIx=>exact fun c i T' A B S hi hm hS=>⟨hi.1,HJX.out _ _ _ _ _ hi.2 hm (fun k hk=>⟨by have:=(hS k hk).1;rw [HS3.out] at this;omega,(hS k hk).2⟩)⟩
   case h0=>exact HJ.out _ _ _ _ _ HR.out.inv HM3.out (fun _ h=>h.elim)
   case hAx=>exact fun l' i a' T' A B ⟨bx,y,h1,h2,h3,h4⟩ hm=>⟨bx,y,h1,h2,heap_kept h3 hm h2,h4⟩
   case assign =>
    intro l' i T' A K hi he hm hJi hlt' hll hK
    obtain ⟨p0,p1,p2,pa,pn,pc,hy2⟩:=HSH.out j hjn i hi
    have hgi:(nss[j])[i]?=some (nss[j])[i]:=by simp [hi]
    generalize (nss[j])[i]=y at hy2 hgi
    obtain ⟨yt,yv⟩:=y
    simp only at hy2
    subst hy2
    have HK:=Lh hK
    have HJI:=Lh hJi
    clear hK hJi
    simp only [hgi,Option.getD_some]
    gi_wp2_with fail
    refine HK.out _ T' _ (Ext.refl _ _ _) ((Chalk.Mod.refl _ _).alloc _) (HJ.out _ _ _ _ _ HJI.out ((Chalk.Mod.refl (fun _=>False) _).alloc _) (fun _ h=>h.elim)) ⟨A.heap.size,_,hgi,by omega,boxed (B:=A.heap.size+1) (Below.refl _ _) (by omega),rfl⟩
   case body =>
    rintro l' i T' a' A hi he hm hJi ⟨bx,y,hgi,hbl,hbx,rfl⟩ hlt' hwl hnl' ⟨rr,hrr⟩
    obtain ⟨p0,p1,p2,pa,pn,pc,hy2⟩:=HSH.out j hjn i hi
    have hgi':(nss[j])[i]?=some (nss[j])[i]:=by simp [hi]
    rw [hgi] at hgi'
    simp only [Option.some.injEq] at hgi'
    subst hgi'
    have hyy:=HY.out (1+offs nss j+i) T' A (by rw [List.length_cons];omega) hJi hlt'
    have hidx:((t,Value.agg #[.int .i64 kind,.int .i64 v,.int .i64 k,.slice (some ⟨b,o,none⟩) tl.length cap]) :: nss.flatten)[1+offs nss j+i]?=some (nss[j])[i]:=by
     rw [show 1+offs nss j+i=(offs nss j+i)+1 from by omega,List.getElem?_cons_succ]
     exact offs_get nss j i hjn hi
    rw [hidx] at hyy
    simp only [Option.getD_some] at hyy
    generalize (nss[j])[i]=y at hy2 hyy hbx
    obtain ⟨yt,yv⟩:=y
    simp only at hy2
    subst hy2
    obtain ⟨fn,tmps,assign,body,hy,hRR⟩:=hyy
    simp only at hbx
    have f0:A.cell? ⟨W.heap.size,0,none⟩=some (.func (.yield l) #[] #[]):=cH (heap_kept (heap_kept HR.out.fbx HM3.out id) hm HR.out.nfb) rfl
    have b0:A.cell? ⟨bx,0,none⟩=some (.int .i64 p0):=cH hbx rfl
    have b1:A.cell? ⟨bx,1,none⟩=some (.int .i64 p1):=cH hbx rfl
    have b2:A.cell? ⟨bx,2,none⟩=some (.int .i64 p2):=cH hbx rfl
    have b3:A.cell? ⟨bx,3,none⟩=some (.slice pa pn pc):=cH hbx rfl
    have HRR:=Lh hRR
    clear hRR hidx hJi hbx hrr
    gi_wp2_with fail
    refine ⟨rfl,RoundIn.mono (F:=Fence.wide.inRound l') HRR.out ?_⟩
    rintro e A2 ⟨T2,he2,hm2,⟨rfl,hj2⟩ | ⟨rfl,hj2⟩⟩
    ·gi_wp2_with fail
     exact ⟨T2,he2,hm2,hj2⟩
    ·gi_wp2_with fail
     exact ⟨T2,he2,hm2,rfl,hj2⟩
   case done =>
    intro D0 T' A hD0 hDlt hnD he hm hJd hdd
    have PR:=HR.out.next (by rw [HS3.out];omega) HM3.out hD0 hnD he hm hJd hdd
    rw [Nat.add_assoc,<- hoff] at PR
    have HPR:=Lh PR
    clear PR hJd hdd he hm hoff hole
    gi_wp2_with fail
    exact ⟨⟨j+1,T',D0 :: ds,_,_,_,_,_,_,_,_,_,_,_,_,_,by omega,HPR.out,rfl⟩,by simp [intOf];omega⟩
   case stop =>
    rintro D0 c i T' A hD0 hDlt hnD hi0 him he hm ⟨rfl,hjx⟩ hdd
    have PR:=HR.out.next (J':=Jx) (by rw [HS3.out];omega) HM3.out hD0 hnD he hm hjx hdd
    have HPR:=Lh PR
    clear PR hjx hdd he hm
    gi_wp2_with fail
    have R:=HPR.out
    refine leaves_marks (v:=.tuple #[]) (D0 :: ds) A (fun w=>results_none rfl _ _ w) R.nodup (fun d hd=>(R.marks d hd).1) (fun W' hm'=>?_)
    obtain ⟨g1,g2,g3⟩:=R.leave hm'
    exact ⟨⟨_,rfl⟩,T',g1,g2,.inr ⟨1+offs nss j+i,by omega,by omega,HJX.out _ _ _ _ _ R.inv hm' g3⟩⟩
  ·gi_wp2_with fail
   have R:=HR.out
   refine leaves_marks (v:=.tuple #[]) ds Wr (fun w=>results_none rfl _ _ w) R.nodup (fun d hd=>(R.marks d hd).1) (fun W' hm'=>?_)
   have hjl:j=nss.length:=by omega
   obtain ⟨g1,g2,g3⟩:=R.leave hm'
   have hi:=HJ.out _ _ _ _ _ R.inv hm' g3
   rw [hjl,offs_all,Nat.add_comm] at hi
   exact ⟨⟨_,rfl⟩,T1,g1,g2,.inl hi⟩

mutual
/-- A tree's nodes, in preorder. -/
def pre:Tr->List Tr
 | .mk kind v k l=>.mk kind v k l :: pres l
def pres:List Tr->List Tr
 | []=>[]
 | t :: r=>pre t++pres r
end
theorem pres_eq:∀ l:List Tr,pres l=(l.map pre).flatten
 | []=>rfl
 | t :: r=>by rw [pres,pres_eq r];rfl

mutual
theorem pre_length:∀ t:Tr,(pre t).length=t.size
 | .mk _ _ _ l=>by rw [pre,Tr.size,List.length_cons,pres_length l];omega
theorem pres_length:∀ l:List Tr,(pres l).length=sizes l
 | []=>rfl
 | t :: r=>by rw [pres,sizes,List.length_append,pre_length t,pres_length r]
end
mutual
theorem mayB_pre:∀ (t:Tr) (n:Int),mayB t n=(pre t).all (nodeOk · n)
 | .mk kind v k l,n=>by rw [mayB,pre,List.all_cons,mayAll_pres l n]
theorem mayAll_pres:∀ (l:List Tr) (n:Int),mayAll l n=(pres l).all (nodeOk · n)
 | [],_=>rfl
 | t :: r,n=>by rw [mayAll,pres,List.all_append,mayB_pre t n,mayAll_pres r n]
end
theorem parts_iter (n:Nat):∀ (t:Tr) (x:Value) (w:World) (F:Nat->Prop),t.size<=n->t.size<=2000000->TreeV w F t x ->
  ∃ ns:List (Tr×Value),ns.map (·.1)=pre t/\(∀ p∈ns,TreeV w F p.1 p.2)/\∀ (W:World) (tb:Nat) (c0 c1 c2 c3:Value),Agree F w W->(∀ k,F k->k<W.heap.size)->x=.agg #[c0,c1,c2,c3]->W.heap[tb]?=some (.cells #[c0,c1,c2,c3] 39 (0,0)) ->
   Iter Tryz.prog 234 #[.pointer (some ⟨tb,0,none⟩)] ns.length (fun i=>#[(ns[i]?.getD (.mk 0 0 0 [],undef)).2]) (fun k=>F k∨k=tb) W:=by
 induction n with
 | zero=>intro t _ _ _ h;have:=size_pos t;omega
 | succ n ih =>
  intro t x w F hn hs ht
  obtain ⟨kind,v,k,l⟩:=t
  have ht':=ht
  obtain ⟨a,b,o,cap,rfl,hsl,_,_,_,_,_,hl⟩:=ht.open
  rw [Tr.size] at hn hs
  have hll:=length_le_sizes l
  obtain ⟨nss,hnl,hns⟩:=exists_list (m:=l.length) (α:=List (Tr×Value)) (Q:=fun (j:Nat) (ns:List (Tr×Value))=>∃ hj:j<l.length,ns.map (·.1)=pre l[j]/\(∀ p∈ns,TreeV w F p.1 p.2)/\∀ (k0 k1 k2:Int) (a1:Option Addr) (n1 cap1:Nat),w.cell? ⟨b,o+j*4,none⟩=some (.int .i64 k0)->w.cell? ⟨b,o+j*4+1,none⟩=some (.int .i64 k1)->w.cell? ⟨b,o+j*4+2,none⟩=some (.int .i64 k2)->w.cell? ⟨b,o+j*4+3,none⟩=some (.slice a1 n1 cap1) ->
   ∀ (W:World) (tb:Nat),Agree F w W->(∀ k,F k->k<W.heap.size)->W.heap[tb]?=some (.cells #[.int .i64 k0,.int .i64 k1,.int .i64 k2,.slice a1 n1 cap1] 39 (0,0)) ->
    Iter Tryz.prog 234 #[.pointer (some ⟨tb,0,none⟩)] ns.length (fun i=>#[(ns[i]?.getD (.mk 0 0 0 [],undef)).2]) (fun k=>F k∨k=tb) W) (fun j hj=>by
    obtain ⟨k0,k1,k2,a1,n1,cap1,c0,c1,c2,c3,htj⟩:=hl j hj
    have:=size_le_sizes l j hj
    obtain ⟨ns,h1,h2,h3⟩:=ih l[j] _ w F (by omega) (by omega) htj
    refine ⟨ns,hj,h1,h2,fun k0' k1' k2' a1' n1' cap1' d0 d1 d2 d3 W tb hag hF htb=>?_⟩
    rw [c0] at d0;rw [c1] at d1;rw [c2] at d2;rw [c3] at d3
    simp only [Option.some.injEq,Value.int.injEq,true_and,Value.slice.injEq] at d0 d1 d2 d3
    obtain ⟨rfl,rfl,rfl⟩:=d3
    subst d0 d1 d2
    exact h3 W tb _ _ _ _ hag hF rfl htb)
  have hmem:∀ (j:Nat) (hj:j<nss.length),∀ p∈nss[j],TreeV w F p.1 p.2:=fun j hj=>by obtain ⟨_,_,h,_⟩:=hns j hj;exact h
  refine ⟨(.mk kind v k l,.agg #[.int .i64 kind,.int .i64 v,.int .i64 k,.slice a l.length cap]) :: nss.flatten,?_,?_,?_⟩
  ·rw [List.map_cons,pre,pres_eq,List.map_flatten]
   have:nss.map (List.map (·.1))=l.map pre:=by
    apply List.ext_getElem (by simp [hnl])
    intro j h1 h2
    simp at h1 h2
    obtain ⟨_,h,_⟩:=hns j h1
    simpa using h
   rw [this]
  ·intro p hp
   rcases List.mem_cons.1 hp with rfl | hp
   ·exact ht'
   ·obtain ⟨ns,hns',hp⟩:=List.mem_flatten.1 hp
    obtain ⟨j,hj,rfl⟩:=List.mem_iff_getElem.1 hns'
    exact hmem j hj p hp
  ·intro W tb c0 c1 c2 c3 hag hF hx htb
   simp only [Value.agg.injEq,List.toArray_inj,Array.mk.injEq,List.cons.injEq,and_true] at hx
   obtain ⟨rfl,rfl,rfl,rfl⟩:=hx
   exact parts1_iter _ kind v k l a b o cap w F hsl hl (by omega) nss hnl (fun j hj i hi=>by
     obtain ⟨c0,c1,c2,c3,h1,h2⟩:=hmem j hj _ (List.getElem_mem hi)
     obtain ⟨k0,k1,k2,a1,n1,cap1,rfl,rfl,rfl,rfl⟩:=TreeV.shape h2
     exact ⟨k0,k1,k2,a1,n1,cap1,h1⟩) (fun j hj=>by obtain ⟨_,_,_,h⟩:=hns j hj;exact h) W tb hag hF htb rfl _

end Go.Proofs.YtjjkfgjnadaheaaGreatDoor
