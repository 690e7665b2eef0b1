/- Parts of the proof. -/
import Derived.Test.YtncnnbmeacpboaaGreatDoorQ21
import Derived.Test.YtncnnbmeacpboaaGreatDoorQ07
set_option maxHeartbeats 1000000
set_option maxRecDepth 100000
set_option linter.unusedVariables false
set_option linter.unusedSimpArgs false
namespace Go.aa
open Go.RowKit
variable {s:aF} {sort at_:Int}
theorem GI{i:Nat}(h:at_=i):bY s sort at_=nth [] (ai s sort) i:=by
 subst h;unfold bY nth;rw[if_neg (by omega)];rfl
theorem A9(h:∀i:Nat,i<bA s sort->at_≠i):bY s sort at_=[]:=by
 unfold bY;by_cases h0:at_<0
 ·rw[if_pos h0]
 ·rw[if_neg h0,List.getElem?_eq_none];rfl;have:=h at_.toNat;unfold bA at this;omega
end Go.aa
namespace Go.Proofs.YtncnnbmeacpboaaGreatDoor
open Go.RowKit Go.aa
attribute [local go_sem] Oper.semAt_some
variable {s:aF} {sort at_:Int}
theorem LU(s:aF)(x:bS)(sort at_:Int)(w:World)(hI:iL)(hs:dD w (·<w.heap.size) s x)(hsm:SchSmall s):
  Calls Tryz.prog 73 #[.agg (x.cells s).toArray,.int .i64 sort,.int .i64 at_] w fun e w'=>e=.returned (.string ⟨(bY s sort at_).toArray⟩)/\Below w.heap.size w w':=by
 have HS:=Lh hs;have HI:=Lh hI;clear hs hI;have HE:=Lh (fun W=>qH s x sort W);obtain⟨R,hR⟩:∃R,R=bY s sort at_:=⟨_,rfl⟩;rw[<-hR];have HR1:=Lh (fun(i:Nat) (h:at_=i)=>hR.trans (GI h));have Gd:=Lh (fun(h:∀i:Nat,i<bA s sort->at_≠i)=>hR.trans (A9 h));clear hR;simp only[bS.cells,aK.val] at HE ⊢;refine(callsIn_wide (n:=0)).1 (callsIn_of_wp_marks Tryz.func73 rfl trivial ?_);simp only[Tryz.ntmps73,List.size_toArray,List.length_cons,List.length_nil,Nat.reduceAdd,Nat.reduceSub,Array.replicate_succ,Array.replicate_zero,List.push_toArray,List.append_toArray,List.nil_append,List.cons_append]
 gi_wp2_with fail
 refine⟨trivial,rfl,(callsIn_wide.2 (HE.out _)).mono ?_⟩;rintro e w' ⟨rfl,rfl⟩
 gi_wp2_with fail
 generalize oC:(((((w.alloc _).alloc _).alloc _).alloc _).alloc _)=W5;have hsz:W5.heap.size=w.heap.size+5:=by rw[<-oC];simp
 have hb5:Below w.heap.size w W5:=by rw[<-oC];exact(((((Below.refl _ _).alloc (Nat.le_refl _) _).alloc (by simp) _).alloc (by simp;omega) _).alloc (by simp;omega) _).alloc (by simp;omega) _
 have g1:W5.heap[w.heap.size+1]?=some (.cells #[.int .i64 at_] 3 (0,0)):=by rw[<-oC];simp only[af,World.size_alloc];repeat(first|rw[if_pos trivial]|rw[if_pos (by omega)]|rw[if_neg (by omega)])
 have g4:W5.heap[w.heap.size+1+1]?=some (.cells #[.string ⟨#[]⟩] 9 (0,0)):=by rw[<-oC];simp only[af,World.size_alloc];repeat(first|rw[if_pos trivial]|rw[if_pos (by omega)]|rw[if_neg (by omega)])
 have g2:W5.heap[w.heap.size+1+1+1]?=some (.cells (x.cells s).toArray 28 (0,0)):=by rw[<-oC];simp only[af,World.size_alloc];repeat(first|rw[if_pos trivial]|rw[if_pos (by omega)]|rw[if_neg (by omega)])
 have g3:W5.heap[w.heap.size+1+1+1+1]?=some (.cells #[.int .i64 sort] 3 (0,0)):=by rw[<-oC];simp only[af,World.size_alloc];repeat(first|rw[if_pos trivial]|rw[if_pos (by omega)]|rw[if_neg (by omega)])
 have hit:=nJ s x sort W5 (w.heap.size+1+1+1) (w.heap.size+1+1+1+1) (·<w.heap.size) HI.out (HS.out.agree (ag hb5)) hsm g2 g3;have G:=Lh (aI hsz (aI hb5 (aI g1 g4)));have HIT:=Lh hit;clear oC hsz hb5 g1 g2 g3 g4 hit;refine mQ (gf:=90) (lb:=#[.pointer (some ⟨w.heap.size+1+1+1+1,0,none⟩),.pointer (some ⟨w.heap.size+1+1+1,0,none⟩)]) rfl (enters_of Tryz.func90 (by kernel_rfl) rfl)
  HIT.out (fun _ _=>rfl) (fun k=>k=w.heap.size+1+1) (fun k hk=>by have:=G.out.1;omega) (fun k hk=>by have:=G.out.1;omega)
  (fun i W=>W.heap[w.heap.size+1+1]?=some (.cells #[.string ⟨#[]⟩] 9 (0,0))/\∀k:Nat,k<i->at_≠k)
  (fun c i W=>c=.ret/\W.heap[w.heap.size+1+1]?=some (.cells #[.string ⟨R.toArray⟩] 9 (0,0)))
  ?hI ?hIx ⟨G.out.2.2.2,fun k hk=>by omega⟩ ?a1 ?assign ?body ?done ?stop
 case hI=>exact(eu.box (T:=fun k=>k=w.heap.size+1+1) (B:=w.heap.size+1+1) (o:=fun _=>.cells #[.string ⟨#[]⟩] 9 (0,0)) rfl).and eu.pure
 case hIx=>exact fun c i A B S h hm hS=>⟨h.1,av h.2 hm (fun hk=>(hS _ hk).2 rfl)⟩
 case assign=>
  intro l i W K hi hK
  gi_wp2_with fail
  exact hK
 case body=>
  rintro l i W hi hm ⟨hb,hne⟩ hT hwl hnl;have hbx:W.heap[w.heap.size+1]?=some (.cells #[.int .i64 at_] 3 (0,0)):=av G.out.2.2.1 hm (by omega);have c0:W.cell? ⟨w.heap.size+1,0,none⟩=some (.int .i64 at_):=cH hbx rfl;have r0:W.cell? ⟨w.heap.size+1+1,0,none⟩=some (.string ⟨#[]⟩):=cH hb rfl;have r1:W.frozen? ⟨w.heap.size+1+1,0,none⟩=false:=fH hb;have HB:=Lh (aI hb hne);clear hb hne hbx;by_cases he:at_=(i:Int)
  ·have HE2:=Lh (HR1.out i he);have he':((i:Int)==at_)=true:=by rw[he];simp
   clear he
   gi_wp2_with fail
   refine⟨(aa.Mod.refl (fun k=>k=w.heap.size+1+1) _).setCell (p:=⟨w.heap.size+1+1,0,none⟩) (fun _=>rfl) _,rfl,?_⟩;rw[aW _ HB.out.1,HE2.out];rfl
  ·have he':((i:Int)==at_)=false:=by simpa using fun e=>he e.symm
   have HE2:=Lh he;clear he
   gi_wp2_with fail
   refine⟨aa.Mod.refl _ _,HB.out.1,fun k hk=>?_⟩;rcases Nat.lt_succ_iff_lt_or_eq.1 hk with h|h
   ·exact HB.out.2 k h
   ·rw[h];exact HE2.out
 case done=>
  rintro D0 W hD0 hDlt hnD hm ⟨hb,hne⟩ hdd;have r0:W.cell? ⟨w.heap.size+1+1,0,none⟩=some (.string ⟨#[]⟩):=cH hb rfl;have r1:W.frozen? ⟨w.heap.size+1+1,0,none⟩=false:=fH hb;have HH:=Lh (aI hm (aI hdd (aI (Gd.out hne) hb)));have hDW:=hDlt;clear hb hm hdd hne
  gi_wp2_with fail
  have h1:=G.out;refine fI (v:=.string ⟨#[]⟩) [D0] _ (by simp) (fun d hd=>by simp at hd;subst hd;exact(Below.heap_setCell _ _ _ _ (show d≠w.heap.size+1+1 by omega)).trans HH.out.2.1) (fun W' hm'=>?_);have hx':W'.heap[w.heap.size+1+1]?=some (.cells #[.string ⟨#[]⟩] 9 (0,0)):=av (by rw[aW _ HH.out.2.2.2];rfl) hm' (fun hk=>by simp at hk;omega);have hcell:W'.cell? ⟨w.heap.size+1+1,0,none⟩=some (.string ⟨#[]⟩):=cH hx' rfl;refine⟨by simp[results,Tryz.results73,go_sem,hcell],by rw[HH.out.2.2.1],?_⟩;have hms:=HH.out.1.size;exact h1.2.1.trans (((HH.out.1.below (B:=w.heap.size) (by omega) (fun k hk=>by omega)).setCell (p:=⟨w.heap.size+1+1,0,none⟩) (by show w.heap.size<=w.heap.size+1+1;omega) _).trans (hm'.below (by simp;omega) (fun k hk=>by simp at hk;omega)))
 case stop=>
  rintro D0 c i W hD0 hDlt hnD h0 hi hm ⟨rfl,hb⟩ hdd;have HH:=Lh (aI hm (aI hdd hb));clear hb hm hdd
  gi_wp2_with fail
  have h1:=G.out;refine fI (v:=.string ⟨R.toArray⟩) [D0] _ (by simp) (fun d hd=>by simp at hd;subst hd;exact HH.out.2.1) (fun W' hm'=>?_);have hx':W'.heap[w.heap.size+1+1]?=some (.cells #[.string ⟨R.toArray⟩] 9 (0,0)):=av HH.out.2.2 hm' (fun hk=>by simp at hk;omega);have hcell:W'.cell? ⟨w.heap.size+1+1,0,none⟩=some (.string ⟨R.toArray⟩):=cH hx' rfl;refine⟨by simp[results,Tryz.results73,go_sem,hcell],rfl,?_⟩;have hms:=HH.out.1.size;exact h1.2.1.trans ((HH.out.1.below (B:=w.heap.size) (by omega) (fun k hk=>by omega)).trans (hm'.below (by omega) (fun k hk=>by simp at hk;omega)))
end Go.Proofs.YtncnnbmeacpboaaGreatDoor
