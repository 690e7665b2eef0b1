/- Parts of the proof. -/
import Derived.Test.YtncnnbmeacpboaaGreatDoorQ22
import Derived.Test.YtncnnbmeacpboaaGreatDoorQ15
import Derived.Test.YtncnnbmeacpboaaGreatDoorQ24
import Derived.Deep.RegionHeld3
set_option maxHeartbeats 4000000
set_option maxRecDepth 100000
set_option linter.unusedVariables false
set_option linter.unusedSimpArgs false
namespace Go.Proofs.YtncnnbmeacpboaaGreatDoor
open Go.RowKit Go.aa
attribute [local go_sem] Oper.semAt_some
variable {w W W':World} {ds:List Nat} {c:Int} {s:aF} {i:Nat}
theorem qz{B:Nat}{w3:World}(h:Below B w w3):Below B w w3.drew:=⟨h.os,h.tape,h.output,h.size,h.block⟩
theorem oh(W:World)(a b c:Value)(T:TypeId):(((W.alloc (.cells #[a] T)).alloc (.cells #[b] T)).alloc (.cells #[c] T)).drew.cell? ⟨W.heap.size,0,none⟩=some a/\
  (((W.alloc (.cells #[a] T)).alloc (.cells #[b] T)).alloc (.cells #[c] T)).drew.cell? ⟨W.heap.size+1,0,none⟩=some b/\(((W.alloc (.cells #[a] T)).alloc (.cells #[b] T)).alloc (.cells #[c] T)).drew.cell? ⟨W.heap.size+1+1,0,none⟩=some c:=by
 have h0:(((W.alloc (.cells #[a] T)).alloc (.cells #[b] T)).alloc (.cells #[c] T)).heap[W.heap.size]?=some (.cells #[a] T):=by simp only[af,World.size_alloc];repeat(first|rw[if_pos trivial]|rw[if_pos rfl]|rw[if_neg (by omega)])
 have h1:(((W.alloc (.cells #[a] T)).alloc (.cells #[b] T)).alloc (.cells #[c] T)).heap[W.heap.size+1]?=some (.cells #[b] T):=by simp only[af,World.size_alloc];repeat(first|rw[if_pos trivial]|rw[if_pos rfl]|rw[if_neg (by omega)])
 have h2:(((W.alloc (.cells #[a] T)).alloc (.cells #[b] T)).alloc (.cells #[c] T)).heap[W.heap.size+1+1]?=some (.cells #[c] T):=by simp only[af,World.size_alloc];repeat(first|rw[if_pos trivial]|rw[if_pos rfl]|rw[if_neg (by omega)])
 exact⟨cH (w:=World.drew _) h0 rfl,cH (w:=World.drew _) h1 rfl,cH (w:=World.drew _) h2 rfl⟩
structure JA (s:aF) (x:bS) (w wr:World) (j:Nat) (ds:List Nat):Prop where
 below:Below w.heap.size w wr
 Jy:wr.heap[w.heap.size]?=some (.cells (x.cells s).toArray 28 (0,0))
 res:wr.heap[w.heap.size+1]?=some (.cells #[.int .i64 0] 39 (0,0))
 nodup:ds.Nodup
 marks:∀d∈ds,wr.heap[d]?=some (.deferred (some []))/\w.heap.size+1<d
 names:∀k:Nat,1<=k->k<=j->ax [] (ai s k)=true
structure iY (w W:World) (ds:List Nat) (c:Int):Prop where
 below:Below w.heap.size w W
 res:W.heap[w.heap.size+1]?=some (.cells #[.int .i64 c] 39 (0,0))
 nodup:ds.Nodup
 marks:∀d∈ds,W.heap[d]?=some (.deferred (some []))/\w.heap.size+1<d
theorem iY.mod{S:Nat->Prop}(h:iY w W ds c)(hm:aa.Mod S W W')(hS:∀k,S k->W.heap.size<=k∨(w.heap.size+1<k/\k∉ds)):iY w W' ds c:=by
 have hsz:=h.below.size;have h1:=(gS h.res).1;refine⟨h.below.trans (hm.below hsz (fun k hk=>by rcases hS k hk with h|h<;>omega)),av h.res hm (fun hk=>by rcases hS _ hk with h|h<;>omega),h.nodup,fun d hd=>?_⟩;have h2:=h.marks d hd;have h3:=(gS h2.1).1;exact⟨av h2.1 hm (fun hk=>by
  rcases hS _ hk with h|h
  ·omega
  ·exact h.2 hd),h2.2⟩
theorem iY.later(h:iY w W ds c)(hb:Below W.heap.size W W'):iY w W' ds c:=
 h.mod (aa.Mod.of_below (S:=fun _=>False) hb) (fun _ hk=>hk.elim)
theorem iY.set(h:iY w W ds c)(c':Int):iY w (W.setCell ⟨w.heap.size+1,0,none⟩ (.int .i64 c')) ds c':=
 ⟨h.below.setCell (p:=⟨w.heap.size+1,0,none⟩) (Nat.le_succ _) _,aW _ h.res,h.nodup,fun d hd=>⟨(Below.heap_setCell _ _ _ _ (show d≠w.heap.size+1 by have:=(h.marks d hd).2;omega)).trans (h.marks d hd).1,(h.marks d hd).2⟩⟩
theorem iY.leaves{tm:Array Value}(h:iY w W ds c)(QY:tm[2]?.getD undef=.pointer (some ⟨w.heap.size+1,0,none⟩))(hc:bE s=c):
  LeavesInM Fence.wide 0 Tryz.prog Tryz.f41 tm (fun e w'=>e=.returned (.int .i64 (bE s))/\Below w.heap.size w w') (ds.map aa.mark) .returning W:=by
 refine fI (v:=.int .i64 c) ds W h.nodup (fun d hd=>(h.marks d hd).1) (fun W' hm'=>?_);have hx':W'.heap[w.heap.size+1]?=some (.cells #[.int .i64 c] 39 (0,0)):=av h.res hm' (fun hk=>by have:=(h.marks _ hk).2;omega);have hcell:W'.cell? ⟨w.heap.size+1,0,none⟩=some (.int .i64 c):=cH hx' rfl;exact⟨by simp[results,Tryz.results41,go_sem,QY,hcell],by rw[hc],h.below.trans (hm'.below h.below.size (fun k hk=>by have:=(h.marks _ hk).2;omega))⟩
theorem zq{met:List (Int×Int)}{x:ma}{r:List ma}:bJ met (x::r)=(!(met.contains (x.day,x.hour))&&aX x.day 6&&aX x.hour 11&&bJ (met++[(x.day,x.hour)]) r):=rfl
theorem IC(h:(ax [] (ai s 1)&&ax [] (ai s 2)&&ax [] (ai s 3)&&ax [] (ai s 4)&&ax [] (ai s 5))=true)(h2:bJ [] s.slots=false):bE s=1:=by
 unfold bE;rw[if_neg (by rw[h];simp),if_pos (by rw[h2];rfl)]
theorem wD(h:(ax [] (ai s 1)&&ax [] (ai s 2)&&ax [] (ai s 3)&&ax [] (ai s 4)&&ax [] (ai s 5))=true)(h2:bJ [] s.slots=true):bE s=if s.slots.length=0∨s.ah.length=0 then 1
 else if s.ah.any (fJ s.slots.length)||s.people.any (dH s.slots.length)||s.groups.any eF||s.lessons.any (dV s.people.length s.groups.length) then 1
 else if 50<s.slots.length∨32<s.ah.length∨64<s.people.length∨64<s.groups.length∨64<s.lessons.length then 2 else 0:=by
 unfold bE;rw[if_neg (by rw[h];simp),if_neg (by rw[h2];simp)]
def gy(l:List ma):List (Int×Int):=l.map (fun x=>(x.day,x.hour))
theorem Dy{l:List ma}(hi:i<l.length)(h:bJ [] l=bJ (gy (l.take i)) (l.drop i)):bJ [] l=(!((gy (l.take i)).contains (l[i].day,l[i].hour))&&aX l[i].day 6&&aX l[i].hour 11&&bJ (gy (l.take (i+1))) (l.drop (i+1))):=by
 rw[h,List.drop_eq_getElem_cons hi,zq,List.take_succ_eq_append_getElem hi,gy,gy,List.map_append];rfl
theorem zn{met:List Bs}{x:Bs}{r:List Bs}:ax met (x::r)=(!(met.contains x)&&df x&&ax (met++[x]) r):=rfl
theorem Dx{l:List Bs}(hi:i<l.length)(h:ax [] l=ax (l.take i) (l.drop i)):ax [] l=(!((l.take i).contains (nth [] l i))&&df (nth [] l i)&&ax (l.take (i+1)) (l.drop (i+1))):=by
 rw[h,List.drop_eq_getElem_cons hi,zn,iO hi,List.take_succ_eq_append_getElem hi]
theorem EE(s:aF)(x:bS)(w:World)(hI:iL)(hs:dD w (·<w.heap.size) s x)(hf:gQ s)(hg:GG w):
  Calls Tryz.prog 41 #[.agg (x.cells s).toArray] w fun e w'=>e=.returned (.int .i64 (bE s))/\Below w.heap.size w w':=by
 have HS:=Lh hs;have HI:=Lh hI;have HG:=Lh hg;have HF:=Lh hf;clear hs hI hg hf;have hmm:= @run_makeMap Tryz.prog;have HE:=Lh (fun sort W=>qH s x sort W);simp only[bS.cells,aK.val] at HE ⊢;refine(callsIn_wide (n:=0)).1 (callsIn_of_wp_marks Tryz.func41 rfl trivial ?_);simp only[Tryz.ntmps41,List.size_toArray,List.length_cons,List.length_nil,Nat.reduceAdd,Nat.reduceSub,Array.replicate_succ,Array.replicate_zero,List.push_toArray,List.append_toArray,List.nil_append,List.cons_append]
 gi_wp2_with fail
 have R0:JA s x w ((w.alloc (.cells (x.cells s).toArray 28)).alloc (.cells #[.int .i64 0] 39)) 0 []:=
  ⟨((Below.refl _ _).alloc (Nat.le_refl _) _).alloc (by simp) _,by rw[af,if_neg (by simp),af,if_pos rfl],by rw[af,if_pos (by simp)],List.nodup_nil,fun _ h=>(by cases h),fun k h1 h2=>by omega⟩
 have Gd:=Lh R0;clear R0;refine wpIn_loop (fun a' W'=>∃(j:Nat) (ds:List Nat) (u4 u6 YG YH u20 u21 u22 u23 u24 u25 u26 u27 u28 u29 u30 u31 u32 u33 u34 u35 u36 u37:Value),j<=5/\JA s x w W' j ds/\
   a'= { tmps:=#[.agg #[.slice x.slots.a s.slots.length x.slots.cap,.slice x.ah.a s.ah.length x.ah.cap,.slice x.people.a s.people.length x.people.cap,.slice x.groups.a s.groups.length x.groups.cap,.slice x.lessons.a s.lessons.length x.lessons.cap],.pointer (some ⟨w.heap.size,0,none⟩),.pointer (some ⟨w.heap.size+1,0,none⟩),.int .i64 ((j+1:Nat):Int),u4,undef,u6,undef,undef,undef,undef,undef,undef,undef,undef,undef,undef,undef,YG,YH,u20,u21,u22,u23,u24,u25,u26,u27,u28,u29,u30,u31,u32,u33,u34,u35,u36,u37,undef,undef,undef,undef,undef,undef,undef,undef,undef,undef,undef,undef,undef,undef,undef,undef,undef,undef,undef,undef,undef,undef,undef,undef,undef,undef,undef,undef,undef,undef,undef,undef,undef,undef,undef,undef,undef,undef,undef,undef,undef,undef,undef,undef,undef,undef,undef,undef,undef,undef,undef,undef,undef,undef,undef,undef,undef,undef,undef,undef,undef,undef,undef,undef,undef,undef,undef,undef,undef,undef,undef,undef,undef,undef,undef,undef,undef,undef,undef,undef,undef,undef,undef,undef,undef,undef,undef,undef,undef,undef,undef,undef,undef,undef,undef,undef,undef,undef],defers:=ds.map aa.mark})
  (fun a' _=>6-(intOf (a'.tmps.getD 3 undef)).toNat) ⟨0,[],_,_,_,_,_,_,_,_,_,_,_,_,_,_,_,_,_,_,_,_,_,_,by omega,Gd.out,rfl⟩ ?_
 clear Gd;rintro a' wr ⟨j,ds,u4,u6,YG,YH,u20,u21,u22,u23,u24,u25,u26,u27,u28,u29,u30,u31,u32,u33,u34,u35,u36,u37,hj,R,rfl⟩;have HR:=Lh R;clear R;by_cases hlt:j<5
 ·have hlt':((j+1:Nat):Int)<=5:=by omega
  have hsc:=HR.out.Jy;have d0:wr.cell? ⟨w.heap.size,0,none⟩=some (.slice x.slots.a s.slots.length x.slots.cap):=cH hsc rfl;have d1:wr.cell? ⟨w.heap.size,1,none⟩=some (.slice x.ah.a s.ah.length x.ah.cap):=cH hsc rfl;have d2:wr.cell? ⟨w.heap.size,2,none⟩=some (.slice x.people.a s.people.length x.people.cap):=cH hsc rfl;have d3:wr.cell? ⟨w.heap.size,3,none⟩=some (.slice x.groups.a s.groups.length x.groups.cap):=cH hsc rfl;have d4:wr.cell? ⟨w.heap.size,4,none⟩=some (.slice x.lessons.a s.lessons.length x.lessons.cap):=cH hsc rfl;have hws:w.heap.size+1<wr.heap.size:=(gS HR.out.res).1;have K4:w.heap.size<wr.heap.size:=by omega
  clear hsc
  gi_wp2_with fail
  refine⟨trivial,rfl,(callsIn_wide.2 (HE.out _ _)).mono ?_⟩;rintro e w' ⟨rfl,rfl⟩
  gi_wp2_with fail
  generalize oC:((((wr.alloc _).alloc _).alloc _).alloc _)=W5;have hsz:W5.heap.size=wr.heap.size+4:=by rw[<-oC];simp
  have hb5:Below wr.heap.size wr W5:=by rw[<-oC];exact((((Below.refl _ _).alloc (Nat.le_refl _) _).alloc (by simp) _).alloc (by simp;omega) _).alloc (by simp;omega) _
  have g0:W5.heap[wr.heap.size]?=some (.map #[] 0):=by rw[<-oC];simp only[af,World.size_alloc];repeat(first|rw[if_pos trivial]|rw[if_pos (by omega)]|rw[if_neg (by omega)])
  have g1:W5.heap[wr.heap.size+1]?=some (.cells #[.map (some wr.heap.size)] 120 (0,0)):=by rw[<-oC];simp only[af,World.size_alloc];repeat(first|rw[if_pos trivial]|rw[if_pos (by omega)]|rw[if_neg (by omega)])
  have g2:W5.heap[wr.heap.size+1+1]?=some (.cells (x.cells s).toArray 28 (0,0)):=by rw[<-oC];simp only[af,World.size_alloc];repeat(first|rw[if_pos trivial]|rw[if_pos (by omega)]|rw[if_neg (by omega)])
  have g3:W5.heap[wr.heap.size+1+1+1]?=some (.cells #[.int .i64 ((j:Int)+1)] 3 (0,0)):=by rw[<-oC];simp only[af,World.size_alloc];repeat(first|rw[if_pos trivial]|rw[if_pos (by omega)]|rw[if_neg (by omega)])
  have g4:W5.heap[w.heap.size+1]?=some (.cells #[.int .i64 0] 39 (0,0)):=(hb5.block _ (by omega)).trans HR.out.res;have hbw:Below w.heap.size w W5:=HR.out.below.trans (hb5.mono (by omega));have hit:=nJ s x ((j:Int)+1) W5 (wr.heap.size+1+1) (wr.heap.size+1+1+1) (·<w.heap.size) HI.out (HS.out.agree (ag hbw)) HF.out.toSchSmall g2 g3;have HIT:=Lh hit;have G:=Lh (aI hsz (aI hb5 (aI hbw (aI g0 (aI g1 g4)))));clear oC hsz hb5 g0 g1 g2 g3 g4 hit hbw d0 d1 d2 d3 d4;refine mQ (gf:=90) (lb:=#[.pointer (some ⟨wr.heap.size+1+1+1,0,none⟩),.pointer (some ⟨wr.heap.size+1+1,0,none⟩)]) rfl (enters_of Tryz.func90 (by kernel_rfl) rfl)
   HIT.out (fun _ _=>rfl) (fun k=>k=wr.heap.size∨k=w.heap.size+1) (fun k hk=>by have:=G.out.1;omega) (fun k hk=>by have:=G.out.1;omega)
   (fun i W=>W.heap[w.heap.size+1]?=some (.cells #[.int .i64 0] 39 (0,0))/\uI W wr.heap.size ((ai s ((j:Int)+1)).take i)/\ax [] (ai s ((j:Int)+1))=ax ((ai s ((j:Int)+1)).take i) ((ai s ((j:Int)+1)).drop i))
   (fun c i W=>c=.ret/\W.heap[w.heap.size+1]?=some (.cells #[.int .i64 1] 39 (0,0))/\ax [] (ai s ((j:Int)+1))=false)
   ?hI ?hIx ⟨G.out.2.2.2.2.2,G.out.2.2.2.1,rfl⟩ ?a1 ?assign ?body ?done ?stop
  case hI=>exact(eu.box (T:=fun k=>k=wr.heap.size∨k=w.heap.size+1) (B:=w.heap.size+1) (o:=fun _=>.cells #[.int .i64 0] 39 (0,0)) (.inr rfl)).and ((eu.box (T:=fun k=>k=wr.heap.size∨k=w.heap.size+1) (B:=wr.heap.size) (.inl rfl)).and eu.pure)
  case hIx=>exact fun c i A B S h hm hS=>⟨h.1,av h.2.1 hm (fun hk=>(hS _ hk).2 (.inr rfl)),h.2.2⟩
  case assign=>
   intro l i W K hi hK
   gi_wp2_with fail
   exact hK
  case body=>
   rintro l i W hi hm ⟨hrb,hset,hgo⟩ hT hwl hnl;have hbW:Below w.heap.size w W:=G.out.2.2.1.trans (hm.below (by have:=G.out.1;omega) (fun k hk=>by omega));have hWs:=hm.size;obtain⟨m,KW⟩:=(HG.out.below hbW).zD;have hbx:W.heap[wr.heap.size+1]?=some (.cells #[.map (some wr.heap.size)] 120 (0,0)):=av G.out.2.2.2.2.1 hm (by omega);have c0:W.cell? ⟨wr.heap.size+1,0,none⟩=some (.map (some wr.heap.size)):=cH hbx rfl;have r1:W.frozen? ⟨w.heap.size+1,0,none⟩=false:=fH hrb;have r0:W.cell? ⟨w.heap.size+1,0,none⟩=some (.int .i64 0):=cH hrb rfl;obtain⟨N,hN⟩:∃N,N=ai s ((j:Int)+1):=⟨_,rfl⟩;rw[<-hN] at hset hgo ⊢;have hi':i<N.length:=by rw[hN];exact hi
   have hnl:(nth [] N i).length<=4000000:=by rw[iO hi'];refine HF.out.names ((j:Int)+1) _ ?_;rw[<-hN];exact List.getElem_mem hi'
   have hgi:=Dx hi' hgo;have htk:N.take (i+1)=N.take i++[nth [] N i]:=by rw[iO hi'];exact List.take_succ_eq_append_getElem hi'
   obtain⟨nm,hnm⟩:∃nm,nm=nth [] N i:=⟨_,rfl⟩;rw[<-hnm] at hnl hgi htk ⊢;have hlk:=Cx (P:=Tryz.prog) W 120 _ _ wr.heap.size (N.take i) nm Tryz.underlying120 Tryz.underlying9 Tryz.zeroValue4 hset;generalize hc:(N.take i).contains nm=c at hlk hgi;have HH:=Lh (aI hm (aI hrb (aI hset (aI hgi (aI hc (aI hbx htk))))));have ow:=Lh (Hu nm m W KW hnl);have HN:=Lh hN;have HNm:=Lh hnm;clear hbW KW hbx hN hi hi' hgo hgi htk hm hrb hset hc hnm hnl;cases c
   ·gi_wp2_with fail
    refine⟨trivial,rfl,CallsIn.inRound l ((callsIn_wide.2 ow.out).mono ?_)⟩;rintro e w1 ⟨rfl,hb1⟩;obtain⟨hm,hrb,hset,hgi,hc,hbx,htk⟩:=HH.out;have zx:w1.heap[w.heap.size+1]?=some (.cells #[.int .i64 0] 39 (0,0)):=(hb1.block _ (gS hrb).1).trans hrb;have qO:uI w1 wr.heap.size (N.take i):=(hb1.block _ (gS hset).1).trans hset;have qN:w1.heap[wr.heap.size+1]?=some (.cells #[.map (some wr.heap.size)] 120 (0,0)):=(hb1.block _ (gS hbx).1).trans hbx;have e0:w1.cell? ⟨wr.heap.size+1,0,none⟩=some (.map (some wr.heap.size)):=cH qN rfl;have e1:w1.frozen? ⟨w.heap.size+1,0,none⟩=false:=fH zx;have e2:w1.cell? ⟨w.heap.size+1,0,none⟩=some (.int .i64 0):=cH zx rfl;have hput:=FU (P:=Tryz.prog) w1 120 _ _ wr.heap.size (N.take i) nm Tryz.underlying120 Tryz.underlying9 qO hc;generalize hv:df nm=v at hgi;have HI2:=Lh (aI zx (aI qO (aI hgi (aI hb1 htk))));clear hm hrb hset hgi hc hbx zx qO qN hb1 hv c0 r0 r1 hlk htk;cases v
    ·clear hput
     gi_wp2_with fail
     refine⟨(aa.Mod.of_below (S:=fun k=>k=wr.heap.size∨k=w.heap.size+1) HI2.out.2.2.2.1).setCell (p:=⟨w.heap.size+1,0,none⟩) (fun _=>.inr rfl) _,rfl,?_,?_⟩
     ·rw[aW _ HI2.out.1];rfl
     ·rw[HI2.out.2.2.1];rfl
    ·gi_wp2_with fail
     have hlt1:wr.heap.size<w1.heap.size:=(gS HI2.out.2.1).1;refine⟨(aa.Mod.of_below (S:=fun k=>k=wr.heap.size∨k=w.heap.size+1) HI2.out.2.2.2.1).trans (aa.Mod.putObj _ _ _) (fun k _ hk=>.inl hk),(World.putObj_heap_other (by omega)).trans HI2.out.1,?_,?_⟩
     ·rw[HI2.out.2.2.2.2];show(World.putObj _ _ _).heap[_]?=_;rw[World.putObj_heap_same hlt1];simp
     ·rw[HI2.out.2.2.1];simp
   ·gi_wp2_with fail
    refine⟨trivial,?_⟩
    gi_wp2_with fail
    obtain⟨hm,hrb,hset,hgi,hc,hbx,htk⟩:=HH.out;refine⟨(aa.Mod.refl (fun k=>k=wr.heap.size∨k=w.heap.size+1) _).setCell (p:=⟨w.heap.size+1,0,none⟩) (fun _=>.inr rfl) _,rfl,?_,?_⟩
    ·rw[aW _ hrb];rfl
    ·rw[hgi];rfl
  case done=>
   rintro D0 W hD0 hDlt hnD hm ⟨hrb,hset,hgo⟩ hdd;have hk:ax [] (ai s ((j:Int)+1))=true:=by rw[hgo,show(ai s ((j:Int)+1)).drop (bA s ((j:Int)+1))=[] from List.drop_of_length_le (Nat.le_of_eq rfl)];rfl
   have hsz:=G.out.1;have hmw:Below w.heap.size w W:=G.out.2.2.1.trans (hm.below (by omega) (fun k hk=>by rcases hk with rfl|rfl<;>omega));have R1:JA s x w W (j+1) (D0::ds):=
    ⟨hmw,av ((G.out.2.1.block _ K4).trans HR.out.Jy) hm (by omega),hrb,List.nodup_cons.2 ⟨fun h=>by
      have:=(gS (HR.out.marks _ h).1).1;omega,HR.out.nodup⟩,
     fun d hd=>by
      rcases List.mem_cons.1 hd with rfl|hd
      ·exact⟨hdd,by omega⟩
      ·have h1:=HR.out.marks d hd;have h2:=(gS h1.1).1;exact⟨av ((G.out.2.1.block _ h2).trans h1.1) hm (by omega),h1.2⟩,
     fun k h1 h2=>by
      rcases Nat.lt_or_eq_of_le h2 with h|h
      ·exact HR.out.names k h1 (by omega)
      ·rw[h];exact_mod_cast hk⟩
   have HR1:=Lh R1;clear R1 hk hmw hsz hD0 hDlt hnD hm hrb hset hgo hdd
   gi_wp2_with fail
   refine⟨⟨j+1,D0::ds,_,_,_,_,_,_,_,_,_,_,_,_,_,_,_,_,_,_,_,_,_,_,by omega,HR1.out,rfl⟩,?_⟩;simp[intOf];omega
  case stop=>
   rintro D0 c i W hD0 hDlt hnD hi0 him hm ⟨rfl,hrb,hgo⟩ hdd;have hsz:=G.out.1;have hmw:Below w.heap.size w W:=G.out.2.2.1.trans (hm.below (by omega) (fun k hk=>by rcases hk with rfl|rfl<;>omega));have hce:bE s=1:=by
    have:j=0∨j=1∨j=2∨j=3∨j=4:=by omega
    unfold bE;rw[if_pos];rcases this with rfl|rfl|rfl|rfl|rfl<;>simp at hgo<;>simp[hgo]
   have HM:=Lh (aI hmw (aI hce (aI hrb (aI hdd (aI hnD hm)))));clear hmw hce hrb hdd hgo hnD hm
   gi_wp2_with fail
   obtain⟨hmw,hce,hrb,hdd,hnD,hm⟩:=HM.out;have hnot:∀d∈D0::ds,W.heap[d]?=some (.deferred (some []))/\w.heap.size+1<d/\(d=D0∨d∈ds):=by
    intro d hd;rcases List.mem_cons.1 hd with rfl|hd
    ·exact⟨hdd,by omega,.inl rfl⟩
    ·have h1:=HR.out.marks d hd;have h2:=(gS h1.1).1;exact⟨av ((G.out.2.1.block _ h2).trans h1.1) hm (by omega),h1.2,.inr hd⟩
   refine fI (v:=.int .i64 1) (D0::ds) W (List.nodup_cons.2 ⟨fun h=>by
      have:=(gS (HR.out.marks _ h).1).1;omega,HR.out.nodup⟩) (fun d hd=>(hnot d hd).1) (fun W' hm'=>?_)
   have hx':W'.heap[w.heap.size+1]?=some (.cells #[.int .i64 1] 39 (0,0)):=av hrb hm' (fun h=>by have:=(hnot _ h).2.1;omega);have hcell:W'.cell? ⟨w.heap.size+1,0,none⟩=some (.int .i64 1):=cH hx' rfl;exact⟨by simp[results,Tryz.results41,go_sem,hcell],by rw[hce],hmw.trans (hm'.below hmw.size (fun k hk=>by have:=(hnot _ hk).2.1;omega))⟩
 ·have Tn:j=5:=by omega
  subst Tn;have hsc:=HR.out.Jy;have d0:wr.cell? ⟨w.heap.size,0,none⟩=some (.slice x.slots.a s.slots.length x.slots.cap):=cH hsc rfl;have hns:(ax [] (ai s 1)&&ax [] (ai s 2)&&ax [] (ai s 3)&&ax [] (ai s 4)&&ax [] (ai s 5))=true:=by
   have h:=HR.out.names;have h1:=h 1 (by omega) (by omega);have h2:=h 2 (by omega) (by omega);have h3:=h 3 (by omega) (by omega);have h4:=h 4 (by omega) (by omega);have h5:=h 5 (by omega) (by omega);simp only[Int.cast_ofNat_Int] at h1 h2 h3 h4 h5;simp[h1,h2,h3,h4,h5]
  have hws:w.heap.size+1<wr.heap.size:=(gS HR.out.res).1;have K4:w.heap.size<wr.heap.size:=by omega
  have E0:iY w (wr.alloc (.map #[] 0)) ds 0:=iY.later ⟨HR.out.below,HR.out.res,HR.out.nodup,HR.out.marks⟩ ((Below.refl _ _).alloc (Nat.le_refl _) _);have S0:(wr.alloc (.map #[] 0)).heap[w.heap.size]?=some (.cells (x.cells s).toArray 28 (0,0)):=(((Below.refl wr.heap.size wr).alloc (Nat.le_refl _) (.map #[] 0)).block _ K4).trans hsc;have Nr:=Lh (aI E0 (aI S0 hns));clear hsc hlt hns E0 S0
  gi_wp2_with fail
  have g0:(wr.alloc (.map #[] 0)).heap[wr.heap.size]?=some (.map #[] 0):=by rw[af,if_pos rfl]
  have HB2:=Lh (show wr.heap.size∉ds from fun h=>by have:=(gS (HR.out.marks _ h).1).1;omega);refine wpIn_loop (fun a' W'=>∃(k:Nat) (u9 WJ YI u44 u45 u46 WK u48 u49 WL u51 WM u53 WN u55 WO WQ u58 u59 u60 WR WS u63 u64 WT u66 WU u68:Value),k<=s.slots.length/\Hid (iY w W' ds 0/\W'.heap[w.heap.size]?=some (.cells (x.cells s).toArray 28 (0,0))/\yV W' wr.heap.size (gy (s.slots.take k))/\bJ [] s.slots=bJ (gy (s.slots.take k)) (s.slots.drop k))/\
    a'= { tmps:=#[.agg #[.slice x.slots.a s.slots.length x.slots.cap,.slice x.ah.a s.ah.length x.ah.cap,.slice x.people.a s.people.length x.people.cap,.slice x.groups.a s.groups.length x.groups.cap,.slice x.lessons.a s.lessons.length x.lessons.cap],.pointer (some ⟨w.heap.size,0,none⟩),.pointer (some ⟨w.heap.size+1,0,none⟩),.int .i64 6,u4,undef,u6,.map (some wr.heap.size),undef,u9,WJ,undef,undef,undef,undef,undef,undef,undef,.int .i64 6,.bool false,u20,u21,u22,u23,u24,u25,u26,u27,u28,u29,u30,u31,u32,u33,u34,u35,u36,u37,.map (some wr.heap.size),.pointer (some ⟨w.heap.size,0,none⟩),.slice x.slots.a s.slots.length x.slots.cap,.int .i64 s.slots.length,.int .i64 k,YI,u44,u45,u46,WK,u48,u49,WL,u51,WM,u53,WN,u55,WO,WQ,u58,u59,u60,WR,WS,u63,u64,WT,u66,WU,u68,undef,undef,undef,undef,undef,undef,undef,undef,undef,undef,undef,undef,undef,undef,undef,undef,undef,undef,undef,undef,undef,undef,undef,undef,undef,undef,undef,undef,undef,undef,undef,undef,undef,undef,undef,undef,undef,undef,undef,undef,undef,undef,undef,undef,undef,undef,undef,undef,undef,undef,undef,undef,undef,undef,undef,undef,undef,undef,undef,undef,undef,undef,undef,undef,undef,undef,undef],defers:=ds.map aa.mark})
   (fun a' _=>s.slots.length-(intOf (a'.tmps.getD 42 undef)).toNat) ⟨0,_,_,_,_,_,_,_,_,_,_,_,_,_,_,_,_,_,_,_,_,_,_,_,_,_,_,_,_,by omega,Lh ⟨Nr.out.1,Nr.out.2.1,g0,rfl⟩,rfl⟩ ?_
  rintro a' W ⟨k,u9,WJ,YI,u44,u45,u46,WK,u48,u49,WL,u51,WM,u53,WN,u55,WO,WQ,u58,u59,u60,WR,WS,u63,u64,WT,u66,WU,u68,hk,HK,rfl⟩;clear d0 g0;by_cases hlt:k<s.slots.length
  ·have hlt':(k:Int)<(s.slots.length:Int):=by omega
   have hsb:(s.slots.length:Int)<=2000000:=by have:=HF.out.slots;omega
   obtain⟨g1,_,_,g4,_⟩:=HS.out.slots.flat ma.bI;obtain⟨hxa,hxb⟩:=g1 (by omega);have hbw:=HK.out.1.below;obtain⟨e0,e1,e2⟩:=(g4.below hbw (fun _=>hxb)).three k hlt rfl;rw[hxa];obtain⟨dy,hdy⟩:∃d,d=s.slots[k].day:=⟨_,rfl⟩;obtain⟨hr,UH⟩:∃d,d=s.slots[k].hour:=⟨_,rfl⟩;have hgt:=Dy hlt HK.out.2.2.2;rw[<-hdy,<-UH] at hgt;rw[<-hdy] at e1;rw[<-UH] at e2;obtain⟨met,hmet⟩:∃m,m=gy (s.slots.take k):=⟨_,rfl⟩;have hp0:=HK.out.2.2.1;rw[<-hmet] at hp0 hgt;have hnx:gy (s.slots.take (k+1))=met++[(dy,hr)]:=by rw[hmet,hdy,UH,List.take_succ_eq_append_getElem hlt,gy,gy,List.map_append];rfl
   have hb1:Below W.heap.size W (W.alloc (.cells #[.string ⟨(s.slots[k].name).toArray⟩,.int .i64 dy,.int .i64 hr] 86)):=(Below.refl _ _).alloc (Nat.le_refl _) _;obtain⟨W2,hW2⟩:∃W2,W2=(W.alloc (.cells #[.string ⟨(s.slots[k].name).toArray⟩,.int .i64 dy,.int .i64 hr] 86)).alloc (.cells #[.int .i64 dy,.int .i64 hr] 126):=⟨_,rfl⟩;have hb2:Below W.heap.size W W2:=by rw[hW2];exact hb1.alloc (by simp) _
   have hpl:wr.heap.size<W.heap.size:=(gS hp0).1;have hp2:yV W2 wr.heap.size met:=(hb2.block _ hpl).trans hp0;have hlk:=Ih (P:=Tryz.prog) W2 125 _ _ wr.heap.size met (dy,hr) Tryz.underlying125 Ma Tryz.zeroValue4 hp2;have hpt:=Mc (P:=Tryz.prog) W2 125 _ _ wr.heap.size met (dy,hr) Tryz.underlying125 Ma hp2;have hE2:=HK.out.1.later hb2;have hr2:W2.frozen? ⟨w.heap.size+1,0,none⟩=false:=fH hE2.res;have hr3:W2.cell? ⟨w.heap.size+1,0,none⟩=some (.int .i64 0):=cH hE2.res rfl;have hz1:W2.cell? ⟨W.heap.size,1,none⟩=some (.int .i64 dy):=by rw[hW2];exact gH (cH (by rw[af,if_pos rfl]) rfl)
   have hz2:W2.cell? ⟨W.heap.size,2,none⟩=some (.int .i64 hr):=by rw[hW2];exact gH (cH (by rw[af,if_pos rfl]) rfl)
   have HW2:=Lh (aI hW2 (aI hb2 (aI hE2 (aI hnx hp2))));generalize hc:met.contains (dy,hr)=c at hlk hgt hpt;obtain⟨a,ha⟩:∃a,a=aX dy 6:=⟨_,rfl⟩;obtain⟨b,hb⟩:∃b,b=aX hr 11:=⟨_,rfl⟩;rw[<-ha,<-hb] at hgt;have HA:Hid (∀W,Calls Tryz.prog 62 #[.int .i64 dy,.int .i64 6] W fun e w'=>e=.returned (.bool a)/\W=w'):=Lh (fun W=>by rw[ha];exact jP _ _ W);have HB:Hid (∀W,Calls Tryz.prog 62 #[.int .i64 hr,.int .i64 11] W fun e w'=>e=.returned (.bool b)/\W=w'):=Lh (fun W=>by rw[hb];exact jP _ _ W);have Pj:=Lh hgt;simp only[jv] at hlk hpt;clear ha hb hgt hc hb1 hb2 hpl hp2 hE2 hnx hmet hp0 hdy UH hbw g1 g4 hxa hxb;subst hW2;have fin:bJ [] s.slots=false->bE s=1:=fun h=>IC Nr.out.2.2 h;have FIN:=Lh fin;clear fin;cases c
   ·have hpt:=hpt rfl;obtain⟨ob,V9⟩:∃o,o=Obj.map (lh 0 (met++[(dy,hr)])).toArray (met++[(dy,hr)]).length:=⟨_,rfl⟩;rw[<-V9] at hpt;have Vd:=Lh V9;clear V9
    gi_wp2_with fail
    refine⟨trivial,rfl,(callsIn_wide.2 (HA.out _)).mono ?_⟩;rintro e w' ⟨rfl,rfl⟩;cases a
    ·gi_wp2_with fail
     refine⟨trivial,?_⟩
     gi_wp2_with fail
     exact(HW2.out.2.2.1.set 1).leaves rfl (FIN.out (by rw[Pj.out];rfl))
    ·gi_wp2_with fail
     refine⟨trivial,rfl,(callsIn_wide.2 (HB.out _)).mono ?_⟩;rintro e w' ⟨rfl,rfl⟩;cases b
     ·gi_wp2_with fail
      exact(HW2.out.2.2.1.set 1).leaves rfl (FIN.out (by rw[Pj.out];simp))
     ·gi_wp2_with fail
      have hlt2:wr.heap.size<((W.alloc (.cells #[.string ⟨(s.slots[k].name).toArray⟩,.int .i64 dy,.int .i64 hr] 86)).alloc (.cells #[.int .i64 dy,.int .i64 hr] 126)).heap.size:=(gS HW2.out.2.2.2.2).1;refine⟨⟨k+1,_,_,_,_,_,_,_,_,_,_,_,_,_,_,_,_,_,_,_,_,_,_,_,_,_,_,_,_,by omega,Lh ⟨HW2.out.2.2.1.mod (aa.Mod.putObj _ _ _) (fun j hj=>.inr ⟨by omega,by rw[hj];exact HB2.out⟩),(World.putObj_heap_other (by omega)).trans ((HW2.out.2.1.block _ (gS HK.out.2.1).1).trans HK.out.2.1),?_,?_⟩,rfl⟩,?_⟩
      ·rw[HW2.out.2.2.2.1];exact(World.putObj_heap_same hlt2).trans (congrArg some Vd.out)
      ·rw[Pj.out];simp
      ·simp[intOf];omega
   ·clear hpt
    gi_wp2_with fail
    refine⟨trivial,?_⟩
    gi_wp2_with fail
    refine⟨trivial,?_⟩
    gi_wp2_with fail
    exact(HW2.out.2.2.1.set 1).leaves rfl (FIN.out (by rw[Pj.out];rfl))
  ·gi_wp2_with fail
   have hk':k=s.slots.length:=by omega
   subst hk';have hsc:=HK.out.2.1;have d0:W.cell? ⟨w.heap.size,0,none⟩=some (.slice x.slots.a s.slots.length x.slots.cap):=cH hsc rfl;have d2:W.cell? ⟨w.heap.size,2,none⟩=some (.slice x.people.a s.people.length x.people.cap):=cH hsc rfl;have d3:W.cell? ⟨w.heap.size,3,none⟩=some (.slice x.groups.a s.groups.length x.groups.cap):=cH hsc rfl;have hws:w.heap.size<W.heap.size:=(gS hsc).1;have Ty:w.heap.size<W.heap.size+1:=by omega
   have Tz:w.heap.size<W.heap.size+1+1:=by omega
   have TA:w.heap.size<W.heap.size+1+1+1:=by omega
   clear hsc;refine wpIn_mono (Q:=fun ex a' W'=>ex=.normal/\∃(p1 p2 p3:Nat) (u69 u70 YJ u72 u73 YK u75 YL YM:Value),Hid (Below W.heap.size W W'/\W'.cell? ⟨p1,0,none⟩=some (.int .i64 s.slots.length)/\W'.cell? ⟨p2,0,none⟩=some (.int .i64 s.people.length)/\W'.cell? ⟨p3,0,none⟩=some (.int .i64 s.groups.length))/\
     a'= { tmps:=#[.agg #[.slice x.slots.a s.slots.length x.slots.cap,.slice x.ah.a s.ah.length x.ah.cap,.slice x.people.a s.people.length x.people.cap,.slice x.groups.a s.groups.length x.groups.cap,.slice x.lessons.a s.lessons.length x.lessons.cap],.pointer (some ⟨w.heap.size,0,none⟩),.pointer (some ⟨w.heap.size+1,0,none⟩),.int .i64 6,u4,undef,u6,.map (some wr.heap.size),undef,u9,WJ,.pointer (some ⟨p1,0,none⟩),.pointer (some ⟨p2,0,none⟩),.pointer (some ⟨p3,0,none⟩),undef,undef,undef,undef,.int .i64 6,.bool false,u20,u21,u22,u23,u24,u25,u26,u27,u28,u29,u30,u31,u32,u33,u34,u35,u36,u37,.map (some wr.heap.size),.pointer (some ⟨w.heap.size,0,none⟩),.slice x.slots.a s.slots.length x.slots.cap,.int .i64 s.slots.length,.int .i64 s.slots.length,.bool false,u44,u45,u46,WK,u48,u49,WL,u51,WM,u53,WN,u55,WO,WQ,u58,u59,u60,WR,WS,u63,u64,WT,u66,WU,u68,u69,u70,YJ,u72,u73,YK,u75,YL,YM,undef,undef,undef,undef,undef,undef,undef,undef,undef,undef,undef,undef,undef,undef,undef,undef,undef,undef,undef,undef,undef,undef,undef,undef,undef,undef,undef,undef,undef,undef,undef,undef,undef,undef,undef,undef,undef,undef,undef,undef,undef,undef,undef,undef,undef,undef,undef,undef,undef,undef,undef,undef,undef,undef,undef,undef,undef,undef],defers:=ds.map aa.mark}) ?_ ?_
   ·refine wpIn_wide.2 ?_;have Y0:Hid (∀W',Below W.heap.size W W'->W'.cell? ⟨w.heap.size,0,none⟩=some (.slice x.slots.a s.slots.length x.slots.cap)/\W'.cell? ⟨w.heap.size,2,none⟩=some (.slice x.people.a s.people.length x.people.cap)/\W'.cell? ⟨w.heap.size,3,none⟩=some (.slice x.groups.a s.groups.length x.groups.cap)):=
     Lh (fun W' hb=>⟨(hb.cell (p:=⟨w.heap.size,0,none⟩) hws).trans d0,(hb.cell (p:=⟨w.heap.size,2,none⟩) hws).trans d2,(hb.cell (p:=⟨w.heap.size,3,none⟩) hws).trans d3⟩)
    clear HS HI HG HF hmm HE HR Nr HB2 HK K4 hj hk hlt d0 d2 d3 Ty Tz TA
    repeat(rename_i h;clear h)
    go_region_held3 (fun w'=>w'.cell? ⟨w.heap.size,0,none⟩=some (.slice x.slots.a s.slots.length x.slots.cap)/\w'.cell? ⟨w.heap.size,2,none⟩=some (.slice x.people.a s.people.length x.people.cap)/\w'.cell? ⟨w.heap.size,3,none⟩=some (.slice x.groups.a s.groups.length x.groups.cap)) ((refine Y0.out _ ?_;repeat(first|exact Below.refl _ _|(refine qz ?_)|(refine Below.alloc ?_ (by first|(simp;done)|(simp;omega)) _)|(refine Below.setCell ?_ (by first|(simp;done)|(simp;omega)) _)))) (fail)
    all_goals
     refine⟨rfl,_,_,_,_,_,_,_,_,_,_,_,_,Lh ⟨qz ((((Below.refl _ _).alloc (Nat.le_refl _) _).alloc (by simp) _).alloc (by simp;omega) _),?_,?_,?_⟩,rfl⟩
     all_goals first|exact(oh _ _ _ _ _).1|exact(oh _ _ _ _ _).2.1|exact(oh _ _ _ _ _).2.2
   ·rintro ex a' W1 ⟨rfl,p1,p2,p3,u69,u70,YJ,u72,u73,YK,u75,YL,YM,HP,rfl⟩;clear d0 d2 d3 Ty Tz TA;obtain⟨hb1,q1,q2,q3⟩:=HP.out;have hE1:=HK.out.1.later hb1;have hs1:W1.heap[w.heap.size]?=some (.cells (x.cells s).toArray 28 (0,0)):=(hb1.block _ hws).trans HK.out.2.1;have d1:W1.cell? ⟨w.heap.size,1,none⟩=some (.slice x.ah.a s.ah.length x.ah.cap):=cH hs1 rfl;have r1:W1.frozen? ⟨w.heap.size+1,0,none⟩=false:=fH hE1.res;have r0:W1.cell? ⟨w.heap.size+1,0,none⟩=some (.int .i64 0):=cH hE1.res rfl;have Yd:bJ [] s.slots=true:=by rw[HK.out.2.2.2,List.drop_length];rfl
    have Gm:=Lh Yd;have wS:=Lh (aI hE1 hs1);clear hb1 hE1 hs1 Yd hj hk hlt K4 hws;by_cases z1:(s.slots.length:Int)=0
    ·have z1':((s.slots.length:Int)==0)=true:=by simpa using z1
     gi_wp2_with fail
     exact(wS.out.1.set 1).leaves rfl (by rw[wD Nr.out.2.2 Gm.out,if_pos (.inl (by omega))])
    ·have z1':((s.slots.length:Int)==0)=false:=by simpa using z1
     by_cases z2:(s.ah.length:Int)=0
     ·have z2':((s.ah.length:Int)==0)=true:=by simpa using z2
      gi_wp2_with fail
      exact(wS.out.1.set 1).leaves rfl (by rw[wD Nr.out.2.2 Gm.out,if_pos (.inr (by omega))])
     ·have z2':((s.ah.length:Int)==0)=false:=by simpa using z2
      have Ab:Hid (∀W',Below W1.heap.size W1 W'->W'.cell? ⟨w.heap.size,1,none⟩=some (.slice x.ah.a s.ah.length x.ah.cap)/\W'.cell? ⟨w.heap.size,2,none⟩=some (.slice x.people.a s.people.length x.people.cap)/\W'.cell? ⟨w.heap.size,3,none⟩=some (.slice x.groups.a s.groups.length x.groups.cap)/\W'.cell? ⟨w.heap.size,4,none⟩=some (.slice x.lessons.a s.lessons.length x.lessons.cap)/\
        W'.cell? ⟨p1,0,none⟩=some (.int .i64 s.slots.length)/\W'.cell? ⟨p2,0,none⟩=some (.int .i64 s.people.length)/\W'.cell? ⟨p3,0,none⟩=some (.int .i64 s.groups.length)/\iY w W' ds 0/\dD W' (·<W'.heap.size) s x):=
       Lh (fun W' hb=>by
        have hs2:=(hb.block _ (gS wS.out.2).1).trans wS.out.2;have hE2:=wS.out.1.later hb;exact⟨cH hs2 rfl,cH hs2 rfl,cH hs2 rfl,cH hs2 rfl,(hb.cell (World.block_lt_of_cell? W1 _ HP.out.2.1)).trans HP.out.2.1,(hb.cell (World.block_lt_of_cell? W1 _ HP.out.2.2.1)).trans HP.out.2.2.1,(hb.cell (World.block_lt_of_cell? W1 _ HP.out.2.2.2)).trans HP.out.2.2.2,hE2,HS.out.later hE2.below hE2.below.size⟩)
      obtain⟨ba,cz⟩:∃b,b=s.ah.any (fJ s.slots.length):=⟨_,rfl⟩;have HA:Hid (∀W',Below W1.heap.size W1 W'->Calls Tryz.prog 68 #[.slice x.ah.a s.ah.length x.ah.cap,.func (.func 63) #[] #[.pointer (some ⟨p1,0,none⟩)]] W' fun e w'=>e=.returned (.bool ba)/\Below W'.heap.size W' w'):=
       Lh (fun W' hb=>by have h:=Ab.out _ hb;rw[cz];exact Iu s.ah x.ah p1 s.slots.length W' h.2.2.2.2.2.2.2.2.ah HF.out.ah HF.out.shut h.2.2.2.2.1)
      obtain⟨bb,hbb⟩:∃b,b=s.people.any (dH s.slots.length):=⟨_,rfl⟩;have HB:Hid (∀W',Below W1.heap.size W1 W'->Calls Tryz.prog 69 #[.slice x.people.a s.people.length x.people.cap,.func (.func 65) #[] #[.pointer (some ⟨p1,0,none⟩)]] W' fun e w'=>e=.returned (.bool bb)/\Below W'.heap.size W' w'):=
       Lh (fun W' hb=>by have h:=Ab.out _ hb;rw[hbb];exact Ef s.people x.people p1 s.slots.length W' h.2.2.2.2.2.2.2.2.people HF.out.people HF.out.away h.2.2.2.2.1)
      obtain⟨bc,hbc⟩:∃b,b=s.groups.any eF:=⟨_,rfl⟩;have HC:Hid (∀W',Below W1.heap.size W1 W'->Calls Tryz.prog 70 #[.slice x.groups.a s.groups.length x.groups.cap,.func (.func 66) #[] #[]] W' fun e w'=>e=.returned (.bool bc)/\Below W'.heap.size W' w'):=
       Lh (fun W' hb=>by have h:=Ab.out _ hb;rw[hbc];exact Dz s.groups x.groups W' h.2.2.2.2.2.2.2.2.groups HF.out.groups)
      obtain⟨bd,hbd⟩:∃b,b=s.lessons.any (dV s.people.length s.groups.length):=⟨_,rfl⟩;have HD:Hid (∀W',Below W1.heap.size W1 W'->Calls Tryz.prog 71 #[.slice x.lessons.a s.lessons.length x.lessons.cap,.func (.func 67) #[] #[.pointer (some ⟨p2,0,none⟩),.pointer (some ⟨p3,0,none⟩)]] W' fun e w'=>e=.returned (.bool bd)/\Below W'.heap.size W' w'):=
       Lh (fun W' hb=>by have h:=Ab.out _ hb;rw[hbd];exact BC s.lessons x.lessons p2 p3 s.people.length s.groups.length W' h.2.2.2.2.2.2.2.2.lessons HF.out.lessons HF.out.who HF.out.SE h.2.2.2.2.2.1 h.2.2.2.2.2.2.1)
      have Gj:Hid (bE s=if(ba||bb||bc||bd)=true then 1 else if 50<s.slots.length∨32<s.ah.length∨64<s.people.length∨64<s.groups.length∨64<s.lessons.length then 2 else 0):=
       Lh (by rw[wD Nr.out.2.2 Gm.out,if_neg (by omega),cz,hbb,hbc,hbd])
      clear cz hbb hbc hbd
      gi_wp2_with fail
      refine⟨trivial,rfl,(callsIn_wide.2 (HA.out _ (Below.refl _ _))).mono ?_⟩;rintro e w2 ⟨rfl,hb2⟩;have JC:=Lh hb2;clear d1 q1 q2 q3 r0 r1 hb2;obtain⟨d1,d2,d3,d4,q1,q2,q3,hE,_⟩:=Ab.out _ JC.out;have r1:w2.frozen? ⟨w.heap.size+1,0,none⟩=false:=fH hE.res;have r0:w2.cell? ⟨w.heap.size+1,0,none⟩=some (.int .i64 0):=cH hE.res rfl;clear hE;cases ba
      ·gi_wp2_with fail
       refine⟨trivial,rfl,(callsIn_wide.2 (HB.out _ JC.out)).mono ?_⟩;rintro e w3 ⟨rfl,hb3⟩;have JD:=Lh (JC.out.trans (hb3.mono JC.out.size));clear d1 d2 d3 d4 q1 q2 q3 r0 r1 hb3;obtain⟨d1,d2,d3,d4,q1,q2,q3,hE,_⟩:=Ab.out _ JD.out;have r1:w3.frozen? ⟨w.heap.size+1,0,none⟩=false:=fH hE.res;have r0:w3.cell? ⟨w.heap.size+1,0,none⟩=some (.int .i64 0):=cH hE.res rfl;clear hE;cases bb
       ·gi_wp2_with fail
        refine⟨trivial,rfl,(callsIn_wide.2 (HC.out _ JD.out)).mono ?_⟩;rintro e w4 ⟨rfl,hb4⟩;have JF:=Lh (JD.out.trans (hb4.mono JD.out.size));clear d1 d2 d3 d4 q1 q2 q3 r0 r1 hb4;obtain⟨d1,d2,d3,d4,q1,q2,q3,hE,_⟩:=Ab.out _ JF.out;have r1:w4.frozen? ⟨w.heap.size+1,0,none⟩=false:=fH hE.res;have r0:w4.cell? ⟨w.heap.size+1,0,none⟩=some (.int .i64 0):=cH hE.res rfl;clear hE;cases bc
        ·gi_wp2_with fail
         refine⟨trivial,rfl,(callsIn_wide.2 (HD.out _ JF.out)).mono ?_⟩;rintro e w5 ⟨rfl,hb5⟩;have Ar:=Lh (JF.out.trans (hb5.mono JF.out.size));clear d1 d2 d3 d4 q1 q2 q3 r0 r1 hb5;obtain⟨d1,d2,d3,d4,q1,q2,q3,hE,_⟩:=Ab.out _ Ar.out;have r1:w5.frozen? ⟨w.heap.size+1,0,none⟩=false:=fH hE.res;have r0:w5.cell? ⟨w.heap.size+1,0,none⟩=some (.int .i64 0):=cH hE.res rfl;clear hE;cases bd
         ·by_cases m0:(50:Int)<(s.slots.length:Int)
          ·have m0':decide ((50:Int)<(s.slots.length:Int))=true:=by simpa using m0
           gi_wp2_with fail
           exact((Ab.out _ Ar.out).2.2.2.2.2.2.2.1.set 2).leaves rfl (by rw[Gj.out,if_neg (by simp),if_pos (by omega)])
          ·have m0':decide ((50:Int)<(s.slots.length:Int))=false:=by simpa using m0
           by_cases m1:(32:Int)<(s.ah.length:Int)
           ·have Z0:decide ((32:Int)<(s.ah.length:Int))=true:=by simpa using m1
            gi_wp2_with fail
            exact((Ab.out _ Ar.out).2.2.2.2.2.2.2.1.set 2).leaves rfl (by rw[Gj.out,if_neg (by simp),if_pos (by omega)])
           ·have Z0:decide ((32:Int)<(s.ah.length:Int))=false:=by simpa using m1
            by_cases m2:(64:Int)<(s.people.length:Int)
            ·have Z4:decide ((64:Int)<(s.people.length:Int))=true:=by simpa using m2
             gi_wp2_with fail
             exact((Ab.out _ Ar.out).2.2.2.2.2.2.2.1.set 2).leaves rfl (by rw[Gj.out,if_neg (by simp),if_pos (by omega)])
            ·have Z4:decide ((64:Int)<(s.people.length:Int))=false:=by simpa using m2
             by_cases m3:(64:Int)<(s.groups.length:Int)
             ·have Z5:decide ((64:Int)<(s.groups.length:Int))=true:=by simpa using m3
              gi_wp2_with fail
              exact((Ab.out _ Ar.out).2.2.2.2.2.2.2.1.set 2).leaves rfl (by rw[Gj.out,if_neg (by simp),if_pos (by omega)])
             ·have Z5:decide ((64:Int)<(s.groups.length:Int))=false:=by simpa using m3
              by_cases m4:(64:Int)<(s.lessons.length:Int)
              ·have Z6:decide ((64:Int)<(s.lessons.length:Int))=true:=by simpa using m4
               gi_wp2_with fail
               exact((Ab.out _ Ar.out).2.2.2.2.2.2.2.1.set 2).leaves rfl (by rw[Gj.out,if_neg (by simp),if_pos (by omega)])
              ·have Z6:decide ((64:Int)<(s.lessons.length:Int))=false:=by simpa using m4
               gi_wp2_with fail
               exact((Ab.out _ Ar.out).2.2.2.2.2.2.2.1.set 0).leaves rfl (by rw[Gj.out,if_neg (by simp),if_neg (by omega)])
         ·gi_wp2_with fail
          exact((Ab.out _ Ar.out).2.2.2.2.2.2.2.1.set 1).leaves rfl (by rw[Gj.out];rfl)
        ·gi_wp2_with fail
         refine⟨trivial,?_⟩
         gi_wp2_with fail
         exact((Ab.out _ JF.out).2.2.2.2.2.2.2.1.set 1).leaves rfl (by rw[Gj.out];rfl)
       ·gi_wp2_with fail
        refine⟨trivial,?_⟩
        gi_wp2_with fail
        refine⟨trivial,?_⟩
        gi_wp2_with fail
        exact((Ab.out _ JD.out).2.2.2.2.2.2.2.1.set 1).leaves rfl (by rw[Gj.out];rfl)
      ·gi_wp2_with fail
       refine⟨trivial,?_⟩
       gi_wp2_with fail
       refine⟨trivial,?_⟩
       gi_wp2_with fail
       refine⟨trivial,?_⟩
       gi_wp2_with fail
       exact((Ab.out _ JC.out).2.2.2.2.2.2.2.1.set 1).leaves rfl (by rw[Gj.out];rfl)
end Go.Proofs.YtncnnbmeacpboaaGreatDoor
