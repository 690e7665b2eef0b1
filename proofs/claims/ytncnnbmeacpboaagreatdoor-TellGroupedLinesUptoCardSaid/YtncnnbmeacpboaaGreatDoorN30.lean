/- Joined texts: Check. -/
import Derived.Test.YtncnnbmeacpboaaGreatDoorN21
import Derived.Test.YtncnnbmeacpboaaGreatDoorN22
import Derived.Test.YtncnnbmeacpboaaGreatDoorN15
import Derived.Test.YtncnnbmeacpboaaGreatDoorN24
import Derived.Deep.RegionHeld3
set_option maxHeartbeats 4000000
set_option maxRecDepth 100000
set_option linter.unusedVariables false
set_option linter.unusedSimpArgs false
/- school.Check. -/
namespace Go.Proofs.YtncnnbmeacpboaaGreatDoor
open Go.RowKit Go.Chalk
attribute [local go_sem] Oper.semAt_some
theorem below_undrew {B:Nat} {w w3:World} (h:Below B w w3):Below B w w3.drew:=⟨h.os,h.tape,h.output,h.size,h.block⟩
theorem three_cells (W:World) (a b c:Value) (T:TypeId):(((W.alloc (.cells #[a] T)).alloc (.cells #[b] T)).alloc (.cells #[c] T)).drew.cell? ⟨W.heap.size,0,none⟩=some a /\
  (((W.alloc (.cells #[a] T)).alloc (.cells #[b] T)).alloc (.cells #[c] T)).drew.cell? ⟨W.heap.size+1,0,none⟩=some b/\(((W.alloc (.cells #[a] T)).alloc (.cells #[b] T)).alloc (.cells #[c] T)).drew.cell? ⟨W.heap.size+1+1,0,none⟩=some c:=by
 have h0:(((W.alloc (.cells #[a] T)).alloc (.cells #[b] T)).alloc (.cells #[c] T)).heap[W.heap.size]?=some (.cells #[a] T):=by simp only [heap_get,World.size_alloc];repeat (first | rw [if_pos trivial] | rw [if_pos rfl] | rw [if_neg (by omega)])
 have h1:(((W.alloc (.cells #[a] T)).alloc (.cells #[b] T)).alloc (.cells #[c] T)).heap[W.heap.size+1]?=some (.cells #[b] T):=by simp only [heap_get,World.size_alloc];repeat (first | rw [if_pos trivial] | rw [if_pos rfl] | rw [if_neg (by omega)])
 have h2:(((W.alloc (.cells #[a] T)).alloc (.cells #[b] T)).alloc (.cells #[c] T)).heap[W.heap.size+1+1]?=some (.cells #[c] T):=by simp only [heap_get,World.size_alloc];repeat (first | rw [if_pos trivial] | rw [if_pos rfl] | rw [if_neg (by omega)])
 exact ⟨cH (w:=World.drew _) h0 rfl,cH (w:=World.drew _) h1 rfl,cH (w:=World.drew _) h2 rfl⟩
structure CkRel (s:Schl) (x:SchA) (w wr:World) (j:Nat) (ds:List Nat):Prop where
 below:Below w.heap.size w wr
 sch:wr.heap[w.heap.size]?=some (.cells (x.cells s).toArray 28 (0,0))
 res:wr.heap[w.heap.size+1]?=some (.cells #[.int .i64 0] 39 (0,0))
 nodup:ds.Nodup
 marks:∀ d∈ds,wr.heap[d]?=some (.deferred (some []))/\w.heap.size+1<d
 names:∀ k:Nat,1<=k->k<=j->goNames [] (schNames s k)=true
structure CkEnd (w W:World) (ds:List Nat) (c:Int):Prop where
 below:Below w.heap.size w W
 res:W.heap[w.heap.size+1]?=some (.cells #[.int .i64 c] 39 (0,0))
 nodup:ds.Nodup
 marks:∀ d∈ds,W.heap[d]?=some (.deferred (some []))/\w.heap.size+1<d
theorem CkEnd.mod {w W W':World} {ds:List Nat} {c:Int} {S:Nat->Prop} (h:CkEnd w W ds c) (hm:Chalk.Mod S W W') (hS:∀ k,S k->W.heap.size<=k∨(w.heap.size+1<k/\k ∉ ds)):CkEnd w W' ds c:=by
 have hsz:=h.below.size
 have h1:=(gS h.res).1
 refine ⟨h.below.trans (hm.below hsz (fun k hk=>by rcases hS k hk with h | h <;> omega)),heap_kept h.res hm (fun hk=>by rcases hS _ hk with h | h <;> omega),h.nodup,fun d hd=>?_⟩
 have h2:=h.marks d hd
 have h3:=(gS h2.1).1
 exact ⟨heap_kept h2.1 hm (fun hk=>by
  rcases hS _ hk with h | h
  ·omega
  ·exact h.2 hd),h2.2⟩
theorem CkEnd.later {w W W':World} {ds:List Nat} {c:Int} (h:CkEnd w W ds c) (hb:Below W.heap.size W W'):CkEnd w W' ds c :=
 h.mod (Chalk.Mod.of_below (S:=fun _=>False) hb) (fun _ hk=>hk.elim)
theorem CkEnd.set {w W:World} {ds:List Nat} {c:Int} (h:CkEnd w W ds c) (c':Int):CkEnd w (W.setCell ⟨w.heap.size+1,0,none⟩ (.int .i64 c')) ds c' :=
 ⟨h.below.setCell (p:=⟨w.heap.size+1,0,none⟩) (Nat.le_succ _) _,box_store _ h.res,h.nodup,fun d hd=>⟨(Below.heap_setCell _ _ _ _ (show d ≠ w.heap.size+1 by have:=(h.marks d hd).2;omega)).trans (h.marks d hd).1,(h.marks d hd).2⟩⟩
theorem CkEnd.leaves {s:Schl} {w W:World} {ds:List Nat} {c:Int} {tm:Array Value} (h:CkEnd w W ds c) (htm:tm[2]?.getD undef=.pointer (some ⟨w.heap.size+1,0,none⟩)) (hc:schCheck s=c) :
  LeavesInM Fence.wide 0 Tryz.prog Tryz.f41 tm (fun e w'=>e=.returned (.int .i64 (schCheck s))/\Below w.heap.size w w') (ds.map Chalk.mark) .returning W:=by
 refine leaves_marks_at (v:=.int .i64 c) ds W h.nodup (fun d hd=>(h.marks d hd).1) (fun W' hm'=>?_)
 have hx':W'.heap[w.heap.size+1]?=some (.cells #[.int .i64 c] 39 (0,0)):=heap_kept h.res hm' (fun hk=>by have:=(h.marks _ hk).2;omega)
 have hcell:W'.cell? ⟨w.heap.size+1,0,none⟩=some (.int .i64 c):=cH hx' rfl
 exact ⟨by simp [results,Tryz.results41,go_sem,htm,hcell],by rw [hc],h.below.trans (hm'.below h.below.size (fun k hk=>by have:=(h.marks _ hk).2;omega))⟩
theorem goTimes_cons {met:List (Int×Int)} {x:Slt} {r:List Slt}:goTimes met (x :: r)=(!(met.contains (x.day,x.hour))&&withinB x.day 6&&withinB x.hour 11&&goTimes (met++[(x.day,x.hour)]) r):=rfl
theorem sch_times {s:Schl} (h:(goNames [] (schNames s 1)&&goNames [] (schNames s 2)&&goNames [] (schNames s 3)&&goNames [] (schNames s 4)&&goNames [] (schNames s 5))=true) (h2:goTimes [] s.slots=false):schCheck s=1:=by
 unfold schCheck
 rw [if_neg (by rw [h];simp),if_pos (by rw [h2];rfl)]
theorem sch_rest {s:Schl} (h:(goNames [] (schNames s 1)&&goNames [] (schNames s 2)&&goNames [] (schNames s 3)&&goNames [] (schNames s 4)&&goNames [] (schNames s 5))=true) (h2:goTimes [] s.slots=true):schCheck s=if s.slots.length=0∨s.rooms.length=0 then 1
 else if s.rooms.any (badRoom s.slots.length)||s.people.any (badPerson s.slots.length)||s.groups.any badGroup||s.lessons.any (badLesson s.people.length s.groups.length) then 1
 else if 50<s.slots.length∨32<s.rooms.length∨64<s.people.length∨64<s.groups.length∨64<s.lessons.length then 2 else 0:=by
 unfold schCheck
 rw [if_neg (by rw [h];simp),if_neg (by rw [h2];simp)]
def slotPairs (l:List Slt):List (Int×Int):=l.map (fun x=>(x.day,x.hour))
theorem goTimes_at {l:List Slt} {i:Nat} (hi:i<l.length) (h:goTimes [] l=goTimes (slotPairs (l.take i)) (l.drop i)):goTimes [] l=(!((slotPairs (l.take i)).contains (l[i].day,l[i].hour))&&withinB l[i].day 6&&withinB l[i].hour 11&&goTimes (slotPairs (l.take (i+1))) (l.drop (i+1))):=by
 rw [h,List.drop_eq_getElem_cons hi,goTimes_cons,List.take_succ_eq_append_getElem hi,slotPairs,slotPairs,List.map_append];rfl
theorem goNames_cons {met:List Bs} {x:Bs} {r:List Bs}:goNames met (x :: r)=(!(met.contains x)&&schNamed x&&goNames (met++[x]) r):=rfl
theorem goNames_at {l:List Bs} {i:Nat} (hi:i<l.length) (h:goNames [] l=goNames (l.take i) (l.drop i)):goNames [] l=(!((l.take i).contains (nth [] l i))&&schNamed (nth [] l i)&&goNames (l.take (i+1)) (l.drop (i+1))):=by
 rw [h,List.drop_eq_getElem_cons hi,goNames_cons,nth_lt hi,List.take_succ_eq_append_getElem hi]

theorem scheck_any (s:Schl) (x:SchA) (w:World) (hI:ItoaAt) (hs:SchIn w (·<w.heap.size) s x) (hf:SchFit s) (hg:GG w) :
  Calls Tryz.prog 41 #[.agg (x.cells s).toArray] w fun e w'=>e=.returned (.int .i64 (schCheck s))/\Below w.heap.size w w':=by
 have HS:=Lh hs
 have HI:=Lh hI
 have HG:=Lh hg
 have HF:=Lh hf
 clear hs hI hg hf
 have hmm := @run_makeMap Tryz.prog
 have HE:=Lh (fun sort W=>elements_any s x sort W)
 simp only [SchA.cells,SlA.val] at HE ⊢
 refine (callsIn_wide (n:=0)).1 (callsIn_of_wp_marks Tryz.func41 rfl trivial ?_)
 simp only [Tryz.ntmps41,List.size_toArray,List.length_cons,List.length_nil,Nat.reduceAdd,Nat.reduceSub,Array.replicate_succ,Array.replicate_zero,List.push_toArray,List.append_toArray,List.nil_append,List.cons_append]
 gi_wp2_with fail
 have R0:CkRel s x w ((w.alloc (.cells (x.cells s).toArray 28)).alloc (.cells #[.int .i64 0] 39)) 0 [] :=
  ⟨((Below.refl _ _).alloc (Nat.le_refl _) _).alloc (by simp) _,by rw [heap_get,if_neg (by simp),heap_get,if_pos rfl],by rw [heap_get,if_pos (by simp)],List.nodup_nil,fun _ h=>(by cases h),fun k h1 h2=>by omega⟩
 have HR0:=Lh R0
 clear R0
 refine wpIn_loop (fun a' W'=>∃ (j:Nat) (ds:List Nat) (u4 u6 u18 u19 u20 u21 u22 u23 u24 u25 u26 u27 u28 u29 u30 u31 u32 u33 u34 u35 u36 u37:Value),j<=5/\CkRel s x w W' j ds /\
   a' = { tmps:=#[.agg #[.slice x.slots.a s.slots.length x.slots.cap,.slice x.rooms.a s.rooms.length x.rooms.cap,.slice x.people.a s.people.length x.people.cap,.slice x.groups.a s.groups.length x.groups.cap,.slice x.lessons.a s.lessons.length x.lessons.cap],.pointer (some ⟨w.heap.size,0,none⟩),.pointer (some ⟨w.heap.size+1,0,none⟩),.int .i64 ((j+1:Nat):Int),u4,undef,u6,undef,undef,undef,undef,undef,undef,undef,undef,undef,undef,undef,u18,u19,u20,u21,u22,u23,u24,u25,u26,u27,u28,u29,u30,u31,u32,u33,u34,u35,u36,u37,undef,undef,undef,undef,undef,undef,undef,undef,undef,undef,undef,undef,undef,undef,undef,undef,undef,undef,undef,undef,undef,undef,undef,undef,undef,undef,undef,undef,undef,undef,undef,undef,undef,undef,undef,undef,undef,undef,undef,undef,undef,undef,undef,undef,undef,undef,undef,undef,undef,undef,undef,undef,undef,undef,undef,undef,undef,undef,undef,undef,undef,undef,undef,undef,undef,undef,undef,undef,undef,undef,undef,undef,undef,undef,undef,undef,undef,undef,undef,undef,undef,undef,undef,undef,undef,undef,undef,undef,undef,undef,undef,undef,undef,undef,undef,undef,undef,undef],defers:=ds.map Chalk.mark })
  (fun a' _=>6 - (intOf (a'.tmps.getD 3 undef)).toNat) ⟨0,[],_,_,_,_,_,_,_,_,_,_,_,_,_,_,_,_,_,_,_,_,_,_,by omega,HR0.out,rfl⟩ ?_
 clear HR0
 rintro a' wr ⟨j,ds,u4,u6,u18,u19,u20,u21,u22,u23,u24,u25,u26,u27,u28,u29,u30,u31,u32,u33,u34,u35,u36,u37,hj,R,rfl⟩
 have HR:=Lh R
 clear R
 by_cases hlt:j<5
 ·have hlt':((j+1:Nat):Int)<=5:=by omega
  have hsc:=HR.out.sch
  have d0:wr.cell? ⟨w.heap.size,0,none⟩=some (.slice x.slots.a s.slots.length x.slots.cap):=cH hsc rfl
  have d1:wr.cell? ⟨w.heap.size,1,none⟩=some (.slice x.rooms.a s.rooms.length x.rooms.cap):=cH hsc rfl
  have d2:wr.cell? ⟨w.heap.size,2,none⟩=some (.slice x.people.a s.people.length x.people.cap):=cH hsc rfl
  have d3:wr.cell? ⟨w.heap.size,3,none⟩=some (.slice x.groups.a s.groups.length x.groups.cap):=cH hsc rfl
  have d4:wr.cell? ⟨w.heap.size,4,none⟩=some (.slice x.lessons.a s.lessons.length x.lessons.cap):=cH hsc rfl
  have hws:w.heap.size+1<wr.heap.size:=(gS HR.out.res).1
  have hws0:w.heap.size<wr.heap.size:=by omega
  clear hsc
  gi_wp2_with fail
  refine ⟨trivial,rfl,(callsIn_wide.2 (HE.out _ _)).mono ?_⟩
  rintro e w' ⟨rfl,rfl⟩
  gi_wp2_with fail
  generalize hW5:((((wr.alloc _).alloc _).alloc _).alloc _)=W5
  have hsz:W5.heap.size=wr.heap.size+4:=by rw [<- hW5];simp
  have hb5:Below wr.heap.size wr W5:=by rw [<- hW5];exact ((((Below.refl _ _).alloc (Nat.le_refl _) _).alloc (by simp) _).alloc (by simp;omega) _).alloc (by simp;omega) _
  have g0:W5.heap[wr.heap.size]?=some (.map #[] 0):=by rw [<- hW5];simp only [heap_get,World.size_alloc];repeat (first | rw [if_pos trivial] | rw [if_pos (by omega)] | rw [if_neg (by omega)])
  have g1:W5.heap[wr.heap.size+1]?=some (.cells #[.map (some wr.heap.size)] 120 (0,0)):=by rw [<- hW5];simp only [heap_get,World.size_alloc];repeat (first | rw [if_pos trivial] | rw [if_pos (by omega)] | rw [if_neg (by omega)])
  have g2:W5.heap[wr.heap.size+1+1]?=some (.cells (x.cells s).toArray 28 (0,0)):=by rw [<- hW5];simp only [heap_get,World.size_alloc];repeat (first | rw [if_pos trivial] | rw [if_pos (by omega)] | rw [if_neg (by omega)])
  have g3:W5.heap[wr.heap.size+1+1+1]?=some (.cells #[.int .i64 ((j:Int)+1)] 3 (0,0)):=by rw [<- hW5];simp only [heap_get,World.size_alloc];repeat (first | rw [if_pos trivial] | rw [if_pos (by omega)] | rw [if_neg (by omega)])
  have g4:W5.heap[w.heap.size+1]?=some (.cells #[.int .i64 0] 39 (0,0)):=(hb5.block _ (by omega)).trans HR.out.res
  have hbw:Below w.heap.size w W5:=HR.out.below.trans (hb5.mono (by omega))
  have hit:=elements1_iter s x ((j:Int)+1) W5 (wr.heap.size+1+1) (wr.heap.size+1+1+1) (·<w.heap.size) HI.out (HS.out.agree (agree_of_below hbw)) HF.out.toSchSmall g2 g3
  have HIT:=Lh hit
  have G:=Lh (aI hsz (aI hb5 (aI hbw (aI g0 (aI g1 g4)))))
  clear hW5 hsz hb5 g0 g1 g2 g3 g4 hit hbw d0 d1 d2 d3 d4
  refine wp_range_fix (gf:=90) (lb:=#[.pointer (some ⟨wr.heap.size+1+1+1,0,none⟩),.pointer (some ⟨wr.heap.size+1+1,0,none⟩)]) rfl (enters_of Tryz.func90 (by kernel_rfl) rfl)
   HIT.out (fun _ _=>rfl) (fun k=>k=wr.heap.size∨k=w.heap.size+1) (fun k hk=>by have:=G.out.1;omega) (fun k hk=>by have:=G.out.1;omega)
   (fun i W=>W.heap[w.heap.size+1]?=some (.cells #[.int .i64 0] 39 (0,0))/\SetAt W wr.heap.size ((schNames s ((j:Int)+1)).take i)/\goNames [] (schNames s ((j:Int)+1))=goNames ((schNames s ((j:Int)+1)).take i) ((schNames s ((j:Int)+1)).drop i))
   (fun c i W=>c=.ret/\W.heap[w.heap.size+1]?=some (.cells #[.int .i64 1] 39 (0,0))/\goNames [] (schNames s ((j:Int)+1))=false)
   ?hI ?hIx ⟨G.out.2.2.2.2.2,G.out.2.2.2.1,rfl⟩ ?a1 ?assign ?body ?done ?stop
  case hI=>exact (FixStab.box (T:=fun k=>k=wr.heap.size∨k=w.heap.size+1) (B:=w.heap.size+1) (o:=fun _=>.cells #[.int .i64 0] 39 (0,0)) (.inr rfl)).and ((FixStab.box (T:=fun k=>k=wr.heap.size∨k=w.heap.size+1) (B:=wr.heap.size) (.inl rfl)).and FixStab.pure)
  case hIx=>exact fun c i A B S h hm hS=>⟨h.1,heap_kept h.2.1 hm (fun hk=>(hS _ hk).2 (.inr rfl)),h.2.2⟩
  case assign =>
   intro l i W K hi hK
   gi_wp2_with fail
   exact hK
  case body =>
   rintro l i W hi hm ⟨hrb,hset,hgo⟩ hT hwl hnl
   have hbW:Below w.heap.size w W:=G.out.2.2.1.trans (hm.below (by have:=G.out.1;omega) (fun k hk=>by omega))
   have hWs:=hm.size
   obtain ⟨m,hml⟩:=(HG.out.below hbW).maxlen
   have hbx:W.heap[wr.heap.size+1]?=some (.cells #[.map (some wr.heap.size)] 120 (0,0)):=heap_kept G.out.2.2.2.2.1 hm (by omega)
   have c0:W.cell? ⟨wr.heap.size+1,0,none⟩=some (.map (some wr.heap.size)):=cH hbx rfl
   have r1:W.frozen? ⟨w.heap.size+1,0,none⟩=false:=fH hrb
   have r0:W.cell? ⟨w.heap.size+1,0,none⟩=some (.int .i64 0):=cH hrb rfl
   obtain ⟨N,hN⟩:∃ N,N=schNames s ((j:Int)+1):=⟨_,rfl⟩
   rw [<- hN] at hset hgo ⊢
   have hi':i<N.length:=by rw [hN];exact hi
   have hnl:(nth [] N i).length<=4000000:=by rw [nth_lt hi'];refine HF.out.names ((j:Int)+1) _ ?_;rw [<- hN];exact List.getElem_mem hi'
   have hgi:=goNames_at hi' hgo
   have htk:N.take (i+1)=N.take i++[nth [] N i]:=by rw [nth_lt hi'];exact List.take_succ_eq_append_getElem hi'
   obtain ⟨nm,hnm⟩:∃ nm,nm=nth [] N i:=⟨_,rfl⟩
   rw [<- hnm] at hnl hgi htk ⊢
   have hlk:=set_look (P:=Tryz.prog) W 120 _ _ wr.heap.size (N.take i) nm Tryz.underlying120 Tryz.underlying9 Tryz.zeroValue4 hset
   generalize hc:(N.take i).contains nm=c at hlk hgi
   have HH:=Lh (aI hm (aI hrb (aI hset (aI hgi (aI hc (aI hbx htk))))))
   have HNM:=Lh (named_any nm m W hml hnl)
   have HN:=Lh hN
   have HNm:=Lh hnm
   clear hbW hml hbx hN hi hi' hgo hgi htk hm hrb hset hc hnm hnl
   cases c
   ·gi_wp2_with fail
    refine ⟨trivial,rfl,CallsIn.inRound l ((callsIn_wide.2 HNM.out).mono ?_)⟩
    rintro e w1 ⟨rfl,hb1⟩
    obtain ⟨hm,hrb,hset,hgi,hc,hbx,htk⟩:=HH.out
    have hrb1:w1.heap[w.heap.size+1]?=some (.cells #[.int .i64 0] 39 (0,0)):=(hb1.block _ (gS hrb).1).trans hrb
    have hset1:SetAt w1 wr.heap.size (N.take i):=(hb1.block _ (gS hset).1).trans hset
    have hbx1:w1.heap[wr.heap.size+1]?=some (.cells #[.map (some wr.heap.size)] 120 (0,0)):=(hb1.block _ (gS hbx).1).trans hbx
    have e0:w1.cell? ⟨wr.heap.size+1,0,none⟩=some (.map (some wr.heap.size)):=cH hbx1 rfl
    have e1:w1.frozen? ⟨w.heap.size+1,0,none⟩=false:=fH hrb1
    have e2:w1.cell? ⟨w.heap.size+1,0,none⟩=some (.int .i64 0):=cH hrb1 rfl
    have hput:=set_put (P:=Tryz.prog) w1 120 _ _ wr.heap.size (N.take i) nm Tryz.underlying120 Tryz.underlying9 hset1 hc
    generalize hv:schNamed nm=v at hgi
    have HI2:=Lh (aI hrb1 (aI hset1 (aI hgi (aI hb1 htk))))
    clear hm hrb hset hgi hc hbx hrb1 hset1 hbx1 hb1 hv c0 r0 r1 hlk htk
    cases v
    ·clear hput
     gi_wp2_with fail
     refine ⟨(Chalk.Mod.of_below (S:=fun k=>k=wr.heap.size∨k=w.heap.size+1) HI2.out.2.2.2.1).setCell (p:=⟨w.heap.size+1,0,none⟩) (fun _=>.inr rfl) _,rfl,?_,?_⟩
     ·rw [box_store _ HI2.out.1];rfl
     ·rw [HI2.out.2.2.1];rfl
    ·gi_wp2_with fail
     have hlt1:wr.heap.size<w1.heap.size:=(gS HI2.out.2.1).1
     refine ⟨(Chalk.Mod.of_below (S:=fun k=>k=wr.heap.size∨k=w.heap.size+1) HI2.out.2.2.2.1).trans (Chalk.Mod.putObj _ _ _) (fun k _ hk=>.inl hk),(World.putObj_heap_other (by omega)).trans HI2.out.1,?_,?_⟩
     ·rw [HI2.out.2.2.2.2]
      show (World.putObj _ _ _).heap[_]?=_
      rw [World.putObj_heap_same hlt1]
      simp
     ·rw [HI2.out.2.2.1];simp
   ·gi_wp2_with fail
    refine ⟨trivial,?_⟩
    gi_wp2_with fail
    obtain ⟨hm,hrb,hset,hgi,hc,hbx,htk⟩:=HH.out
    refine ⟨(Chalk.Mod.refl (fun k=>k=wr.heap.size∨k=w.heap.size+1) _).setCell (p:=⟨w.heap.size+1,0,none⟩) (fun _=>.inr rfl) _,rfl,?_,?_⟩
    ·rw [box_store _ hrb];rfl
    ·rw [hgi];rfl
  case done =>
   rintro D0 W hD0 hDlt hnD hm ⟨hrb,hset,hgo⟩ hdd
   have hk:goNames [] (schNames s ((j:Int)+1))=true:=by rw [hgo,show (schNames s ((j:Int)+1)).drop (schCount s ((j:Int)+1))=[] from List.drop_of_length_le (Nat.le_of_eq rfl)];rfl
   have hsz:=G.out.1
   have hmw:Below w.heap.size w W:=G.out.2.2.1.trans (hm.below (by omega) (fun k hk=>by rcases hk with rfl | rfl <;> omega))
   have R1:CkRel s x w W (j+1) (D0 :: ds) :=
    ⟨hmw,heap_kept ((G.out.2.1.block _ hws0).trans HR.out.sch) hm (by omega),hrb,List.nodup_cons.2 ⟨fun h=>by
      have:=(gS (HR.out.marks _ h).1).1;omega,HR.out.nodup⟩,
     fun d hd=>by
      rcases List.mem_cons.1 hd with rfl | hd
      ·exact ⟨hdd,by omega⟩
      ·have h1:=HR.out.marks d hd
       have h2:=(gS h1.1).1
       exact ⟨heap_kept ((G.out.2.1.block _ h2).trans h1.1) hm (by omega),h1.2⟩,
     fun k h1 h2=>by
      rcases Nat.lt_or_eq_of_le h2 with h | h
      ·exact HR.out.names k h1 (by omega)
      ·rw [h];exact_mod_cast hk⟩
   have HR1:=Lh R1
   clear R1 hk hmw hsz hD0 hDlt hnD hm hrb hset hgo hdd
   gi_wp2_with fail
   refine ⟨⟨j+1,D0 :: ds,_,_,_,_,_,_,_,_,_,_,_,_,_,_,_,_,_,_,_,_,_,_,by omega,HR1.out,rfl⟩,?_⟩
   simp [intOf]
   omega
  case stop =>
   rintro D0 c i W hD0 hDlt hnD hi0 him hm ⟨rfl,hrb,hgo⟩ hdd
   have hsz:=G.out.1
   have hmw:Below w.heap.size w W:=G.out.2.2.1.trans (hm.below (by omega) (fun k hk=>by rcases hk with rfl | rfl <;> omega))
   have hce:schCheck s=1:=by
    have:j=0∨j=1∨j=2∨j=3∨j=4:=by omega
    unfold schCheck
    rw [if_pos]
    rcases this with rfl | rfl | rfl | rfl | rfl <;> simp at hgo <;> simp [hgo]
   have HM:=Lh (aI hmw (aI hce (aI hrb (aI hdd (aI hnD hm)))))
   clear hmw hce hrb hdd hgo hnD hm
   gi_wp2_with fail
   obtain ⟨hmw,hce,hrb,hdd,hnD,hm⟩:=HM.out
   have hnot:∀ d∈D0 :: ds,W.heap[d]?=some (.deferred (some []))/\w.heap.size+1<d/\(d=D0∨d∈ds):=by
    intro d hd
    rcases List.mem_cons.1 hd with rfl | hd
    ·exact ⟨hdd,by omega,.inl rfl⟩
    ·have h1:=HR.out.marks d hd
     have h2:=(gS h1.1).1
     exact ⟨heap_kept ((G.out.2.1.block _ h2).trans h1.1) hm (by omega),h1.2,.inr hd⟩
   refine leaves_marks_at (v:=.int .i64 1) (D0 :: ds) W (List.nodup_cons.2 ⟨fun h=>by
      have:=(gS (HR.out.marks _ h).1).1;omega,HR.out.nodup⟩) (fun d hd=>(hnot d hd).1) (fun W' hm'=>?_)
   have hx':W'.heap[w.heap.size+1]?=some (.cells #[.int .i64 1] 39 (0,0)):=heap_kept hrb hm' (fun h=>by have:=(hnot _ h).2.1;omega)
   have hcell:W'.cell? ⟨w.heap.size+1,0,none⟩=some (.int .i64 1):=cH hx' rfl
   exact ⟨by simp [results,Tryz.results41,go_sem,hcell],by rw [hce],hmw.trans (hm'.below hmw.size (fun k hk=>by have:=(hnot _ hk).2.1;omega))⟩
 ·have hj5:j=5:=by omega
  subst hj5
  have hsc:=HR.out.sch
  have d0:wr.cell? ⟨w.heap.size,0,none⟩=some (.slice x.slots.a s.slots.length x.slots.cap):=cH hsc rfl
  have hns:(goNames [] (schNames s 1)&&goNames [] (schNames s 2)&&goNames [] (schNames s 3)&&goNames [] (schNames s 4)&&goNames [] (schNames s 5))=true:=by
   have h:=HR.out.names
   have h1:=h 1 (by omega) (by omega);have h2:=h 2 (by omega) (by omega);have h3:=h 3 (by omega) (by omega);have h4:=h 4 (by omega) (by omega);have h5:=h 5 (by omega) (by omega)
   simp only [Int.cast_ofNat_Int] at h1 h2 h3 h4 h5
   simp [h1,h2,h3,h4,h5]
  have hws:w.heap.size+1<wr.heap.size:=(gS HR.out.res).1
  have hws0:w.heap.size<wr.heap.size:=by omega
  have E0:CkEnd w (wr.alloc (.map #[] 0)) ds 0:=CkEnd.later ⟨HR.out.below,HR.out.res,HR.out.nodup,HR.out.marks⟩ ((Below.refl _ _).alloc (Nat.le_refl _) _)
  have S0:(wr.alloc (.map #[] 0)).heap[w.heap.size]?=some (.cells (x.cells s).toArray 28 (0,0)):=(((Below.refl wr.heap.size wr).alloc (Nat.le_refl _) (.map #[] 0)).block _ hws0).trans hsc
  have HE0:=Lh (aI E0 (aI S0 hns))
  clear hsc hlt hns E0 S0
  gi_wp2_with fail
  have g0:(wr.alloc (.map #[] 0)).heap[wr.heap.size]?=some (.map #[] 0):=by rw [heap_get,if_pos rfl]
  have HB2:=Lh (show wr.heap.size ∉ ds from fun h=>by have:=(gS (HR.out.marks _ h).1).1;omega)
  refine wpIn_loop (fun a' W'=>∃ (k:Nat) (u9 u10 u43 u44 u45 u46 u47 u48 u49 u50 u51 u52 u53 u54 u55 u56 u57 u58 u59 u60 u61 u62 u63 u64 u65 u66 u67 u68:Value),k<=s.slots.length/\Hid (CkEnd w W' ds 0/\W'.heap[w.heap.size]?=some (.cells (x.cells s).toArray 28 (0,0))/\PairAt W' wr.heap.size (slotPairs (s.slots.take k))/\goTimes [] s.slots=goTimes (slotPairs (s.slots.take k)) (s.slots.drop k)) /\
    a' = { tmps:=#[.agg #[.slice x.slots.a s.slots.length x.slots.cap,.slice x.rooms.a s.rooms.length x.rooms.cap,.slice x.people.a s.people.length x.people.cap,.slice x.groups.a s.groups.length x.groups.cap,.slice x.lessons.a s.lessons.length x.lessons.cap],.pointer (some ⟨w.heap.size,0,none⟩),.pointer (some ⟨w.heap.size+1,0,none⟩),.int .i64 6,u4,undef,u6,.map (some wr.heap.size),undef,u9,u10,undef,undef,undef,undef,undef,undef,undef,.int .i64 6,.bool false,u20,u21,u22,u23,u24,u25,u26,u27,u28,u29,u30,u31,u32,u33,u34,u35,u36,u37,.map (some wr.heap.size),.pointer (some ⟨w.heap.size,0,none⟩),.slice x.slots.a s.slots.length x.slots.cap,.int .i64 s.slots.length,.int .i64 k,u43,u44,u45,u46,u47,u48,u49,u50,u51,u52,u53,u54,u55,u56,u57,u58,u59,u60,u61,u62,u63,u64,u65,u66,u67,u68,undef,undef,undef,undef,undef,undef,undef,undef,undef,undef,undef,undef,undef,undef,undef,undef,undef,undef,undef,undef,undef,undef,undef,undef,undef,undef,undef,undef,undef,undef,undef,undef,undef,undef,undef,undef,undef,undef,undef,undef,undef,undef,undef,undef,undef,undef,undef,undef,undef,undef,undef,undef,undef,undef,undef,undef,undef,undef,undef,undef,undef,undef,undef,undef,undef,undef,undef],defers:=ds.map Chalk.mark })
   (fun a' _=>s.slots.length - (intOf (a'.tmps.getD 42 undef)).toNat) ⟨0,_,_,_,_,_,_,_,_,_,_,_,_,_,_,_,_,_,_,_,_,_,_,_,_,_,_,_,_,by omega,Lh ⟨HE0.out.1,HE0.out.2.1,g0,rfl⟩,rfl⟩ ?_
  rintro a' W ⟨k,u9,u10,u43,u44,u45,u46,u47,u48,u49,u50,u51,u52,u53,u54,u55,u56,u57,u58,u59,u60,u61,u62,u63,u64,u65,u66,u67,u68,hk,HK,rfl⟩
  clear d0 g0
  by_cases hlt:k<s.slots.length
  ·have hlt':(k:Int)<(s.slots.length:Int):=by omega
   have hsb:(s.slots.length:Int)<=2000000:=by have:=HF.out.slots;omega
   obtain ⟨g1,_,_,g4,_⟩:=HS.out.slots.flat Slt.flatT
   obtain ⟨hxa,hxb⟩:=g1 (by omega)
   have hbw:=HK.out.1.below
   obtain ⟨e0,e1,e2⟩:=(g4.below hbw (fun _=>hxb)).three k hlt rfl
   rw [hxa]
   obtain ⟨dy,hdy⟩:∃ d,d=s.slots[k].day:=⟨_,rfl⟩
   obtain ⟨hr,hhr⟩:∃ d,d=s.slots[k].hour:=⟨_,rfl⟩
   have hgt:=goTimes_at hlt HK.out.2.2.2
   rw [<- hdy,<- hhr] at hgt
   rw [<- hdy] at e1
   rw [<- hhr] at e2
   obtain ⟨met,hmet⟩:∃ m,m=slotPairs (s.slots.take k):=⟨_,rfl⟩
   have hp0:=HK.out.2.2.1
   rw [<- hmet] at hp0 hgt
   have hnx:slotPairs (s.slots.take (k+1))=met++[(dy,hr)]:=by rw [hmet,hdy,hhr,List.take_succ_eq_append_getElem hlt,slotPairs,slotPairs,List.map_append];rfl
   have hb1:Below W.heap.size W (W.alloc (.cells #[.string ⟨(s.slots[k].name).toArray⟩,.int .i64 dy,.int .i64 hr] 86)):=(Below.refl _ _).alloc (Nat.le_refl _) _
   obtain ⟨W2,hW2⟩:∃ W2,W2=(W.alloc (.cells #[.string ⟨(s.slots[k].name).toArray⟩,.int .i64 dy,.int .i64 hr] 86)).alloc (.cells #[.int .i64 dy,.int .i64 hr] 126):=⟨_,rfl⟩
   have hb2:Below W.heap.size W W2:=by rw [hW2];exact hb1.alloc (by simp) _
   have hpl:wr.heap.size<W.heap.size:=(gS hp0).1
   have hp2:PairAt W2 wr.heap.size met:=(hb2.block _ hpl).trans hp0
   have hlk:=pair_look (P:=Tryz.prog) W2 125 _ _ wr.heap.size met (dy,hr) Tryz.underlying125 pairOk Tryz.zeroValue4 hp2
   have hpt:=pair_put (P:=Tryz.prog) W2 125 _ _ wr.heap.size met (dy,hr) Tryz.underlying125 pairOk hp2
   have hE2:=HK.out.1.later hb2
   have hr2:W2.frozen? ⟨w.heap.size+1,0,none⟩=false:=fH hE2.res
   have hr3:W2.cell? ⟨w.heap.size+1,0,none⟩=some (.int .i64 0):=cH hE2.res rfl
   have hz1:W2.cell? ⟨W.heap.size,1,none⟩=some (.int .i64 dy):=by rw [hW2];exact cell_alloc (cH (by rw [heap_get,if_pos rfl]) rfl)
   have hz2:W2.cell? ⟨W.heap.size,2,none⟩=some (.int .i64 hr):=by rw [hW2];exact cell_alloc (cH (by rw [heap_get,if_pos rfl]) rfl)
   have HW2:=Lh (aI hW2 (aI hb2 (aI hE2 (aI hnx hp2))))
   generalize hc:met.contains (dy,hr)=c at hlk hgt hpt
   obtain ⟨a,ha⟩:∃ a,a=withinB dy 6:=⟨_,rfl⟩
   obtain ⟨b,hb⟩:∃ b,b=withinB hr 11:=⟨_,rfl⟩
   rw [<- ha,<- hb] at hgt
   have HA:Hid (∀ W,Calls Tryz.prog 62 #[.int .i64 dy,.int .i64 6] W fun e w'=>e=.returned (.bool a)/\W=w'):=Lh (fun W=>by rw [ha];exact swithin_any _ _ W)
   have HB:Hid (∀ W,Calls Tryz.prog 62 #[.int .i64 hr,.int .i64 11] W fun e w'=>e=.returned (.bool b)/\W=w'):=Lh (fun W=>by rw [hb];exact swithin_any _ _ W)
   have HGT:=Lh hgt
   simp only [pairV] at hlk hpt
   clear ha hb hgt hc hb1 hb2 hpl hp2 hE2 hnx hmet hp0 hdy hhr hbw g1 g4 hxa hxb
   subst hW2
   have fin:goTimes [] s.slots=false->schCheck s=1:=fun h=>sch_times HE0.out.2.2 h
   have FIN:=Lh fin
   clear fin
   cases c
   ·have hpt:=hpt rfl
    obtain ⟨ob,hob⟩:∃ o,o=Obj.map (pairL 0 (met++[(dy,hr)])).toArray (met++[(dy,hr)]).length:=⟨_,rfl⟩
    rw [<- hob] at hpt
    have HOB:=Lh hob
    clear hob
    gi_wp2_with fail
    refine ⟨trivial,rfl,(callsIn_wide.2 (HA.out _)).mono ?_⟩
    rintro e w' ⟨rfl,rfl⟩
    cases a
    ·gi_wp2_with fail
     refine ⟨trivial,?_⟩
     gi_wp2_with fail
     exact (HW2.out.2.2.1.set 1).leaves rfl (FIN.out (by rw [HGT.out];rfl))
    ·gi_wp2_with fail
     refine ⟨trivial,rfl,(callsIn_wide.2 (HB.out _)).mono ?_⟩
     rintro e w' ⟨rfl,rfl⟩
     cases b
     ·gi_wp2_with fail
      exact (HW2.out.2.2.1.set 1).leaves rfl (FIN.out (by rw [HGT.out];simp))
     ·gi_wp2_with fail
      have hlt2:wr.heap.size<((W.alloc (.cells #[.string ⟨(s.slots[k].name).toArray⟩,.int .i64 dy,.int .i64 hr] 86)).alloc (.cells #[.int .i64 dy,.int .i64 hr] 126)).heap.size:=(gS HW2.out.2.2.2.2).1
      refine ⟨⟨k+1,_,_,_,_,_,_,_,_,_,_,_,_,_,_,_,_,_,_,_,_,_,_,_,_,_,_,_,_,by omega,Lh ⟨HW2.out.2.2.1.mod (Chalk.Mod.putObj _ _ _) (fun j hj=>.inr ⟨by omega,by rw [hj];exact HB2.out⟩),(World.putObj_heap_other (by omega)).trans ((HW2.out.2.1.block _ (gS HK.out.2.1).1).trans HK.out.2.1),?_,?_⟩,rfl⟩,?_⟩
      ·rw [HW2.out.2.2.2.1];exact (World.putObj_heap_same hlt2).trans (congrArg some HOB.out)
      ·rw [HGT.out];simp
      ·simp [intOf];omega
   ·clear hpt
    gi_wp2_with fail
    refine ⟨trivial,?_⟩
    gi_wp2_with fail
    refine ⟨trivial,?_⟩
    gi_wp2_with fail
    exact (HW2.out.2.2.1.set 1).leaves rfl (FIN.out (by rw [HGT.out];rfl))
  ·gi_wp2_with fail
   have hk':k=s.slots.length:=by omega
   subst hk'
   have hsc:=HK.out.2.1
   have d0:W.cell? ⟨w.heap.size,0,none⟩=some (.slice x.slots.a s.slots.length x.slots.cap):=cH hsc rfl
   have d2:W.cell? ⟨w.heap.size,2,none⟩=some (.slice x.people.a s.people.length x.people.cap):=cH hsc rfl
   have d3:W.cell? ⟨w.heap.size,3,none⟩=some (.slice x.groups.a s.groups.length x.groups.cap):=cH hsc rfl
   have hws:w.heap.size<W.heap.size:=(gS hsc).1
   have hws1:w.heap.size<W.heap.size+1:=by omega
   have hws2:w.heap.size<W.heap.size+1+1:=by omega
   have hws3:w.heap.size<W.heap.size+1+1+1:=by omega
   clear hsc
   refine wpIn_mono (Q:=fun ex a' W'=>ex=.normal/\∃ (p1 p2 p3:Nat) (u69 u70 u71 u72 u73 u74 u75 u76 u77:Value),Hid (Below W.heap.size W W'/\W'.cell? ⟨p1,0,none⟩=some (.int .i64 s.slots.length)/\W'.cell? ⟨p2,0,none⟩=some (.int .i64 s.people.length)/\W'.cell? ⟨p3,0,none⟩=some (.int .i64 s.groups.length)) /\
     a' = { tmps:=#[.agg #[.slice x.slots.a s.slots.length x.slots.cap,.slice x.rooms.a s.rooms.length x.rooms.cap,.slice x.people.a s.people.length x.people.cap,.slice x.groups.a s.groups.length x.groups.cap,.slice x.lessons.a s.lessons.length x.lessons.cap],.pointer (some ⟨w.heap.size,0,none⟩),.pointer (some ⟨w.heap.size+1,0,none⟩),.int .i64 6,u4,undef,u6,.map (some wr.heap.size),undef,u9,u10,.pointer (some ⟨p1,0,none⟩),.pointer (some ⟨p2,0,none⟩),.pointer (some ⟨p3,0,none⟩),undef,undef,undef,undef,.int .i64 6,.bool false,u20,u21,u22,u23,u24,u25,u26,u27,u28,u29,u30,u31,u32,u33,u34,u35,u36,u37,.map (some wr.heap.size),.pointer (some ⟨w.heap.size,0,none⟩),.slice x.slots.a s.slots.length x.slots.cap,.int .i64 s.slots.length,.int .i64 s.slots.length,.bool false,u44,u45,u46,u47,u48,u49,u50,u51,u52,u53,u54,u55,u56,u57,u58,u59,u60,u61,u62,u63,u64,u65,u66,u67,u68,u69,u70,u71,u72,u73,u74,u75,u76,u77,undef,undef,undef,undef,undef,undef,undef,undef,undef,undef,undef,undef,undef,undef,undef,undef,undef,undef,undef,undef,undef,undef,undef,undef,undef,undef,undef,undef,undef,undef,undef,undef,undef,undef,undef,undef,undef,undef,undef,undef,undef,undef,undef,undef,undef,undef,undef,undef,undef,undef,undef,undef,undef,undef,undef,undef,undef,undef],defers:=ds.map Chalk.mark }) ?_ ?_
   ·refine wpIn_wide.2 ?_
    have HKW:Hid (∀ W',Below W.heap.size W W'->W'.cell? ⟨w.heap.size,0,none⟩=some (.slice x.slots.a s.slots.length x.slots.cap)/\W'.cell? ⟨w.heap.size,2,none⟩=some (.slice x.people.a s.people.length x.people.cap)/\W'.cell? ⟨w.heap.size,3,none⟩=some (.slice x.groups.a s.groups.length x.groups.cap)) :=
     Lh (fun W' hb=>⟨(hb.cell (p:=⟨w.heap.size,0,none⟩) hws).trans d0,(hb.cell (p:=⟨w.heap.size,2,none⟩) hws).trans d2,(hb.cell (p:=⟨w.heap.size,3,none⟩) hws).trans d3⟩)
    clear HS HI HG HF hmm HE HR HE0 HB2 HK hws0 hj hk hlt d0 d2 d3 hws1 hws2 hws3
    repeat (rename_i h;clear h)
    go_region_held3 (fun w'=>w'.cell? ⟨w.heap.size,0,none⟩=some (.slice x.slots.a s.slots.length x.slots.cap)/\w'.cell? ⟨w.heap.size,2,none⟩=some (.slice x.people.a s.people.length x.people.cap)/\w'.cell? ⟨w.heap.size,3,none⟩=some (.slice x.groups.a s.groups.length x.groups.cap)) ((refine HKW.out _ ?_;repeat (first | exact Below.refl _ _ | (refine below_undrew ?_) | (refine Below.alloc ?_ (by first | (simp;done) | (simp;omega)) _) | (refine Below.setCell ?_ (by first | (simp;done) | (simp;omega)) _)))) (fail)
    all_goals
     refine ⟨rfl,_,_,_,_,_,_,_,_,_,_,_,_,Lh ⟨below_undrew ((((Below.refl _ _).alloc (Nat.le_refl _) _).alloc (by simp) _).alloc (by simp;omega) _),?_,?_,?_⟩,rfl⟩
     all_goals first | exact (three_cells _ _ _ _ _).1 | exact (three_cells _ _ _ _ _).2.1 | exact (three_cells _ _ _ _ _).2.2
   ·rintro ex a' W1 ⟨rfl,p1,p2,p3,u69,u70,u71,u72,u73,u74,u75,u76,u77,HP,rfl⟩
    clear d0 d2 d3 hws1 hws2 hws3
    obtain ⟨hb1,q1,q2,q3⟩:=HP.out
    have hE1:=HK.out.1.later hb1
    have hs1:W1.heap[w.heap.size]?=some (.cells (x.cells s).toArray 28 (0,0)):=(hb1.block _ hws).trans HK.out.2.1
    have d1:W1.cell? ⟨w.heap.size,1,none⟩=some (.slice x.rooms.a s.rooms.length x.rooms.cap):=cH hs1 rfl
    have r1:W1.frozen? ⟨w.heap.size+1,0,none⟩=false:=fH hE1.res
    have r0:W1.cell? ⟨w.heap.size+1,0,none⟩=some (.int .i64 0):=cH hE1.res rfl
    have htt:goTimes [] s.slots=true:=by rw [HK.out.2.2.2,List.drop_length];rfl
    have HTT:=Lh htt
    have HE1:=Lh (aI hE1 hs1)
    clear hb1 hE1 hs1 htt hj hk hlt hws0 hws
    by_cases z1:(s.slots.length:Int)=0
    ·have z1':((s.slots.length:Int)==0)=true:=by simpa using z1
     gi_wp2_with fail
     exact (HE1.out.1.set 1).leaves rfl (by rw [sch_rest HE0.out.2.2 HTT.out,if_pos (.inl (by omega))])
    ·have z1':((s.slots.length:Int)==0)=false:=by simpa using z1
     by_cases z2:(s.rooms.length:Int)=0
     ·have z2':((s.rooms.length:Int)==0)=true:=by simpa using z2
      gi_wp2_with fail
      exact (HE1.out.1.set 1).leaves rfl (by rw [sch_rest HE0.out.2.2 HTT.out,if_pos (.inr (by omega))])
     ·have z2':((s.rooms.length:Int)==0)=false:=by simpa using z2
      have HKA:Hid (∀ W',Below W1.heap.size W1 W'->W'.cell? ⟨w.heap.size,1,none⟩=some (.slice x.rooms.a s.rooms.length x.rooms.cap)/\W'.cell? ⟨w.heap.size,2,none⟩=some (.slice x.people.a s.people.length x.people.cap)/\W'.cell? ⟨w.heap.size,3,none⟩=some (.slice x.groups.a s.groups.length x.groups.cap)/\W'.cell? ⟨w.heap.size,4,none⟩=some (.slice x.lessons.a s.lessons.length x.lessons.cap) /\
        W'.cell? ⟨p1,0,none⟩=some (.int .i64 s.slots.length)/\W'.cell? ⟨p2,0,none⟩=some (.int .i64 s.people.length)/\W'.cell? ⟨p3,0,none⟩=some (.int .i64 s.groups.length)/\CkEnd w W' ds 0/\SchIn W' (·<W'.heap.size) s x) :=
       Lh (fun W' hb=>by
        have hs2:=(hb.block _ (gS HE1.out.2).1).trans HE1.out.2
        have hE2:=HE1.out.1.later hb
        exact ⟨cH hs2 rfl,cH hs2 rfl,cH hs2 rfl,cH hs2 rfl,(hb.cell (World.block_lt_of_cell? W1 _ HP.out.2.1)).trans HP.out.2.1,(hb.cell (World.block_lt_of_cell? W1 _ HP.out.2.2.1)).trans HP.out.2.2.1,(hb.cell (World.block_lt_of_cell? W1 _ HP.out.2.2.2)).trans HP.out.2.2.2,hE2,HS.out.later hE2.below hE2.below.size⟩)
      obtain ⟨ba,hba⟩:∃ b,b=s.rooms.any (badRoom s.slots.length):=⟨_,rfl⟩
      have HA:Hid (∀ W',Below W1.heap.size W1 W'->Calls Tryz.prog 68 #[.slice x.rooms.a s.rooms.length x.rooms.cap,.func (.func 63) #[] #[.pointer (some ⟨p1,0,none⟩)]] W' fun e w'=>e=.returned (.bool ba)/\Below W'.heap.size W' w') :=
       Lh (fun W' hb=>by have h:=HKA.out _ hb;rw [hba];exact rooms_bad s.rooms x.rooms p1 s.slots.length W' h.2.2.2.2.2.2.2.2.rooms HF.out.rooms HF.out.shut h.2.2.2.2.1)
      obtain ⟨bb,hbb⟩:∃ b,b=s.people.any (badPerson s.slots.length):=⟨_,rfl⟩
      have HB:Hid (∀ W',Below W1.heap.size W1 W'->Calls Tryz.prog 69 #[.slice x.people.a s.people.length x.people.cap,.func (.func 65) #[] #[.pointer (some ⟨p1,0,none⟩)]] W' fun e w'=>e=.returned (.bool bb)/\Below W'.heap.size W' w') :=
       Lh (fun W' hb=>by have h:=HKA.out _ hb;rw [hbb];exact people_bad s.people x.people p1 s.slots.length W' h.2.2.2.2.2.2.2.2.people HF.out.people HF.out.away h.2.2.2.2.1)
      obtain ⟨bc,hbc⟩:∃ b,b=s.groups.any badGroup:=⟨_,rfl⟩
      have HC:Hid (∀ W',Below W1.heap.size W1 W'->Calls Tryz.prog 70 #[.slice x.groups.a s.groups.length x.groups.cap,.func (.func 66) #[] #[]] W' fun e w'=>e=.returned (.bool bc)/\Below W'.heap.size W' w') :=
       Lh (fun W' hb=>by have h:=HKA.out _ hb;rw [hbc];exact groups_bad s.groups x.groups W' h.2.2.2.2.2.2.2.2.groups HF.out.groups)
      obtain ⟨bd,hbd⟩:∃ b,b=s.lessons.any (badLesson s.people.length s.groups.length):=⟨_,rfl⟩
      have HD:Hid (∀ W',Below W1.heap.size W1 W'->Calls Tryz.prog 71 #[.slice x.lessons.a s.lessons.length x.lessons.cap,.func (.func 67) #[] #[.pointer (some ⟨p2,0,none⟩),.pointer (some ⟨p3,0,none⟩)]] W' fun e w'=>e=.returned (.bool bd)/\Below W'.heap.size W' w') :=
       Lh (fun W' hb=>by have h:=HKA.out _ hb;rw [hbd];exact lessons_bad s.lessons x.lessons p2 p3 s.people.length s.groups.length W' h.2.2.2.2.2.2.2.2.lessons HF.out.lessons HF.out.who HF.out.grps h.2.2.2.2.2.1 h.2.2.2.2.2.2.1)
      have HSC:Hid (schCheck s=if (ba||bb||bc||bd)=true then 1 else if 50<s.slots.length∨32<s.rooms.length∨64<s.people.length∨64<s.groups.length∨64<s.lessons.length then 2 else 0) :=
       Lh (by rw [sch_rest HE0.out.2.2 HTT.out,if_neg (by omega),hba,hbb,hbc,hbd])
      clear hba hbb hbc hbd
      gi_wp2_with fail
      refine ⟨trivial,rfl,(callsIn_wide.2 (HA.out _ (Below.refl _ _))).mono ?_⟩
      rintro e w2 ⟨rfl,hb2⟩
      have HB2':=Lh hb2
      clear d1 q1 q2 q3 r0 r1 hb2
      obtain ⟨d1,d2,d3,d4,q1,q2,q3,hE,_⟩:=HKA.out _ HB2'.out
      have r1:w2.frozen? ⟨w.heap.size+1,0,none⟩=false:=fH hE.res
      have r0:w2.cell? ⟨w.heap.size+1,0,none⟩=some (.int .i64 0):=cH hE.res rfl
      clear hE
      cases ba
      ·gi_wp2_with fail
       refine ⟨trivial,rfl,(callsIn_wide.2 (HB.out _ HB2'.out)).mono ?_⟩
       rintro e w3 ⟨rfl,hb3⟩
       have HB3':=Lh (HB2'.out.trans (hb3.mono HB2'.out.size))
       clear d1 d2 d3 d4 q1 q2 q3 r0 r1 hb3
       obtain ⟨d1,d2,d3,d4,q1,q2,q3,hE,_⟩:=HKA.out _ HB3'.out
       have r1:w3.frozen? ⟨w.heap.size+1,0,none⟩=false:=fH hE.res
       have r0:w3.cell? ⟨w.heap.size+1,0,none⟩=some (.int .i64 0):=cH hE.res rfl
       clear hE
       cases bb
       ·gi_wp2_with fail
        refine ⟨trivial,rfl,(callsIn_wide.2 (HC.out _ HB3'.out)).mono ?_⟩
        rintro e w4 ⟨rfl,hb4⟩
        have HB4':=Lh (HB3'.out.trans (hb4.mono HB3'.out.size))
        clear d1 d2 d3 d4 q1 q2 q3 r0 r1 hb4
        obtain ⟨d1,d2,d3,d4,q1,q2,q3,hE,_⟩:=HKA.out _ HB4'.out
        have r1:w4.frozen? ⟨w.heap.size+1,0,none⟩=false:=fH hE.res
        have r0:w4.cell? ⟨w.heap.size+1,0,none⟩=some (.int .i64 0):=cH hE.res rfl
        clear hE
        cases bc
        ·gi_wp2_with fail
         refine ⟨trivial,rfl,(callsIn_wide.2 (HD.out _ HB4'.out)).mono ?_⟩
         rintro e w5 ⟨rfl,hb5⟩
         have HB5':=Lh (HB4'.out.trans (hb5.mono HB4'.out.size))
         clear d1 d2 d3 d4 q1 q2 q3 r0 r1 hb5
         obtain ⟨d1,d2,d3,d4,q1,q2,q3,hE,_⟩:=HKA.out _ HB5'.out
         have r1:w5.frozen? ⟨w.heap.size+1,0,none⟩=false:=fH hE.res
         have r0:w5.cell? ⟨w.heap.size+1,0,none⟩=some (.int .i64 0):=cH hE.res rfl
         clear hE
         cases bd
         ·by_cases m0:(50:Int)<(s.slots.length:Int)
          ·have m0':decide ((50:Int)<(s.slots.length:Int))=true:=by simpa using m0
           gi_wp2_with fail
           exact ((HKA.out _ HB5'.out).2.2.2.2.2.2.2.1.set 2).leaves rfl (by rw [HSC.out,if_neg (by simp),if_pos (by omega)])
          ·have m0':decide ((50:Int)<(s.slots.length:Int))=false:=by simpa using m0
           by_cases m1:(32:Int)<(s.rooms.length:Int)
           ·have m1':decide ((32:Int)<(s.rooms.length:Int))=true:=by simpa using m1
            gi_wp2_with fail
            exact ((HKA.out _ HB5'.out).2.2.2.2.2.2.2.1.set 2).leaves rfl (by rw [HSC.out,if_neg (by simp),if_pos (by omega)])
           ·have m1':decide ((32:Int)<(s.rooms.length:Int))=false:=by simpa using m1
            by_cases m2:(64:Int)<(s.people.length:Int)
            ·have m2':decide ((64:Int)<(s.people.length:Int))=true:=by simpa using m2
             gi_wp2_with fail
             exact ((HKA.out _ HB5'.out).2.2.2.2.2.2.2.1.set 2).leaves rfl (by rw [HSC.out,if_neg (by simp),if_pos (by omega)])
            ·have m2':decide ((64:Int)<(s.people.length:Int))=false:=by simpa using m2
             by_cases m3:(64:Int)<(s.groups.length:Int)
             ·have m3':decide ((64:Int)<(s.groups.length:Int))=true:=by simpa using m3
              gi_wp2_with fail
              exact ((HKA.out _ HB5'.out).2.2.2.2.2.2.2.1.set 2).leaves rfl (by rw [HSC.out,if_neg (by simp),if_pos (by omega)])
             ·have m3':decide ((64:Int)<(s.groups.length:Int))=false:=by simpa using m3
              by_cases m4:(64:Int)<(s.lessons.length:Int)
              ·have m4':decide ((64:Int)<(s.lessons.length:Int))=true:=by simpa using m4
               gi_wp2_with fail
               exact ((HKA.out _ HB5'.out).2.2.2.2.2.2.2.1.set 2).leaves rfl (by rw [HSC.out,if_neg (by simp),if_pos (by omega)])
              ·have m4':decide ((64:Int)<(s.lessons.length:Int))=false:=by simpa using m4
               gi_wp2_with fail
               exact ((HKA.out _ HB5'.out).2.2.2.2.2.2.2.1.set 0).leaves rfl (by rw [HSC.out,if_neg (by simp),if_neg (by omega)])
         ·gi_wp2_with fail
          exact ((HKA.out _ HB5'.out).2.2.2.2.2.2.2.1.set 1).leaves rfl (by rw [HSC.out];rfl)
        ·gi_wp2_with fail
         refine ⟨trivial,?_⟩
         gi_wp2_with fail
         exact ((HKA.out _ HB4'.out).2.2.2.2.2.2.2.1.set 1).leaves rfl (by rw [HSC.out];rfl)
       ·gi_wp2_with fail
        refine ⟨trivial,?_⟩
        gi_wp2_with fail
        refine ⟨trivial,?_⟩
        gi_wp2_with fail
        exact ((HKA.out _ HB3'.out).2.2.2.2.2.2.2.1.set 1).leaves rfl (by rw [HSC.out];rfl)
      ·gi_wp2_with fail
       refine ⟨trivial,?_⟩
       gi_wp2_with fail
       refine ⟨trivial,?_⟩
       gi_wp2_with fail
       refine ⟨trivial,?_⟩
       gi_wp2_with fail
       exact ((HKA.out _ HB2'.out).2.2.2.2.2.2.2.1.set 1).leaves rfl (by rw [HSC.out];rfl)
end Go.Proofs.YtncnnbmeacpboaaGreatDoor
