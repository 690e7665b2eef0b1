/- Joined texts: XCheck. -/
import Derived.Test.YtjjkfgjnadaheaaGreatDoorLGGate14
import Derived.Test.YtjjkfgjnadaheaaGreatDoorLGGate8
set_option maxHeartbeats 1000000
set_option maxRecDepth 100000
set_option linter.unusedVariables false
set_option linter.unusedSimpArgs false
/- flat.Check. -/
namespace Go.Proofs.YtjjkfgjnadaheaaGreatDoor
open Go.RowKit Go.Chalk
attribute [local go_sem] Oper.semAt_some
theorem check_arg (x0 x1 x2:Int) (a:Option Addr) (n cap:Nat) (m:Int) (w:World) (h:m<0∨65536<m) :
  Calls Tryz.prog 144 #[.agg #[.int .i64 x0,.int .i64 x1,.int .i64 x2,.slice a n cap],.int .i64 m] w fun e w'=>e=.returned (.int .i64 1)/\Below w.heap.size w w':=by
 rcases h with h | h
 ·go_enter Tryz.func144,Tryz.ntmps144
  go_wp2_with fail
  refine bodyPost_ret (v:=.int .i64 1) (by simp [results,Tryz.results144,go_sem]) rfl ⟨rfl,?_⟩
  exact (((Below.refl _ _).alloc (Nat.le_refl _) _).alloc (by simp) _).alloc (by simp;omega) _
 ·have h':decide (m<0)=false:=by simp;omega
  go_enter Tryz.func144,Tryz.ntmps144
  go_wp2_with fail
  refine bodyPost_ret (v:=.int .i64 1) (by simp [results,Tryz.results144,go_sem]) rfl ⟨rfl,?_⟩
  exact (((Below.refl _ _).alloc (Nat.le_refl _) _).alloc (by simp) _).alloc (by simp;omega) _

theorem heap_alloc_get (w:World) (o:Obj) (k:Nat):(w.alloc o).heap[k]?=if k=w.heap.size then some o else w.heap[k]?:=by
 show (w.heap.push o)[k]?=_
 rw [Array.getElem?_push]

def CheckI (rb sb:Nat) (ns:List (Tr×Value)) (m:Int) (i:Nat) (T':Nat->Prop) (W:World):Prop :=
 T'=(fun k=>k=rb∨k=sb)/\W.heap[rb]?=some (.cells #[.int .i64 0] 40 (0,0))/\W.heap[sb]?=some (.cells #[.int .i64 i] 3 (0,0))/\(ns.take i).all (fun p=>nodeOk p.1 m)=true
def CheckX (rb sb:Nat) (ns:List (Tr×Value)) (m:Int) (T':Nat->Prop) (W:World):Prop :=
 T'=(fun k=>k=rb∨k=sb)/\W.heap[rb]?=some (.cells #[.int .i64 1] 40 (0,0))/\ns.all (fun p=>nodeOk p.1 m)=false
theorem CheckI.stab {N rb sb:Nat} {ns:List (Tr×Value)} {m:Int}:Stab N (CheckI rb sb ns m):=fun i T W W' S ⟨h1,h2,h3,h4⟩ hm hS =>
 ⟨h1,heap_kept h2 hm (fun h=>(hS _ h).2 (by rw [h1];exact .inl rfl)),heap_kept h3 hm (fun h=>(hS _ h).2 (by rw [h1];exact .inr rfl)),h4⟩

theorem check_walk (t:Tr) (x:Value) (m:Int) (w:World) (hs:t.size<=2000000) (ht:TreeV w (·<w.heap.size) t x) (h1:0<=m) (h2:m<=65536) :
  Calls Tryz.prog 144 #[x,.int .i64 m] w fun e w'=>e=.returned (.int .i64 (checkE t m))/\Below w.heap.size w w':=by
 obtain ⟨ns,hn1,hn2,hn3⟩:=parts_iter t.size t x w (·<w.heap.size) (Nat.le_refl _) hs ht
 have HN1:=Lh hn1
 have HN2:=Lh hn2
 have HN3:=Lh hn3
 clear hn1 hn2 hn3
 have HT:=Lh ht
 obtain ⟨c0,c1,c2,c3,rfl,h⟩:=ht
 obtain ⟨k0,k1,k2,a1,n1,cap1,rfl,rfl,rfl,rfl⟩:=TreeV.shape h
 clear h
 have hd1:decide (m<0)=false:=by simp;omega
 have hd2:decide (65536<m)=false:=by simp;omega
 refine (callsIn_wide (n:=0)).1 (callsIn_of_wp_marks Tryz.func144 rfl trivial ?_)
 simp only [Tryz.ntmps144,List.size_toArray,List.length_cons,List.length_nil,Nat.reduceAdd,Nat.reduceSub,Array.replicate_succ,Array.replicate_zero,List.push_toArray,List.append_toArray,List.nil_append,List.cons_append]
 gi_wp2_with fail
 refine ⟨trivial,rfl,(callsIn_wide.2 (parts_any _ _ _ _ _)).mono ?_⟩
 rintro e w' ⟨rfl,rfl⟩
 gi_wp2_with fail
 generalize hW5:(((((w.alloc _).alloc _).alloc _).alloc _).alloc _)=W5
 have hsz:W5.heap.size=w.heap.size+5:=by rw [<- hW5];simp
 have hb5:Below w.heap.size w W5:=by rw [<- hW5];exact (((((Below.refl _ _).alloc (Nat.le_refl _) _).alloc (by simp) _).alloc (by simp;omega) _).alloc (by simp;omega) _).alloc (by simp;omega) _
 have g1:W5.heap[w.heap.size+1]?=some (.cells #[.int .i64 m] 3 (0,0)):=by rw [<- hW5];simp only [heap_alloc_get,World.size_alloc];repeat (first | rw [if_pos trivial] | rw [if_pos (by omega)] | rw [if_neg (by omega)])
 have g2:W5.heap[w.heap.size+1+1]?=some (.cells #[.int .i64 0] 40 (0,0)):=by rw [<- hW5];simp only [heap_alloc_get,World.size_alloc];repeat (first | rw [if_pos trivial] | rw [if_pos (by omega)] | rw [if_neg (by omega)])
 have g3:W5.heap[w.heap.size+1+1+1]?=some (.cells #[.int .i64 0] 3 (0,0)):=by rw [<- hW5];simp only [heap_alloc_get,World.size_alloc];repeat (first | rw [if_pos trivial] | rw [if_pos (by omega)] | rw [if_neg (by omega)])
 have g4:W5.heap[w.heap.size+1+1+1+1]?=some (.cells #[.int .i64 k0,.int .i64 k1,.int .i64 k2,.slice a1 n1 cap1] 39 (0,0)):=by rw [<- hW5];simp only [heap_alloc_get,World.size_alloc];repeat (first | rw [if_pos trivial] | rw [if_pos (by omega)] | rw [if_neg (by omega)])
 have G:=Lh (aI hsz (aI hb5 (aI g1 (aI g2 (aI g3 g4)))))
 clear hW5 hsz hb5 g1 g2 g3 g4
 refine wp_range (gf:=234) (lb:=#[.pointer (some ⟨w.heap.size+1+1+1+1,0,none⟩)]) rfl (enters_of Tryz.func234 (by kernel_rfl) rfl)
  (HN3.out W5 _ _ _ _ _ (agree_of_below G.out.2.1) (fun k hk=>by have:=G.out.1;omega) rfl G.out.2.2.2.2.2) (fun _ _=>rfl) (fun k=>k=w.heap.size+1+1∨k=w.heap.size+1+1+1)
  (fun k hk=>by have:=G.out.1;omega) (fun k hk=>by have:=G.out.1;omega) (CheckI (w.heap.size+1+1) (w.heap.size+1+1+1) ns m) (fun c i T' W'=>c=.ret/\CheckX (w.heap.size+1+1) (w.heap.size+1+1+1) ns m T' W') CheckI.stab ?hIx ?h0
  (fun l' i a' _ W'=>∃ (bx:Nat) (y:Tr×Value),ns[i]?=some y/\bx ≠ l'/\W5.heap.size<=bx/\W'.heap[bx]?=some (.cells y.2.cells 39 (0,0))/\a' = { tmps:=#[.agg #[.int .i64 k0,.int .i64 k1,.int .i64 k2,.slice a1 n1 cap1],.int .i64 m,.pointer (some ⟨w.heap.size,0,none⟩),.pointer (some ⟨w.heap.size+1,0,none⟩),.pointer (some ⟨w.heap.size+1+1,0,none⟩),.pointer (some ⟨w.heap.size+1+1+1,0,none⟩),.pointer (some ⟨bx,0,none⟩),.int .i64 m,.bool false,.bool false,.int .i64 m,.bool false,.bool false,.agg #[.int .i64 k0,.int .i64 k1,.int .i64 k2,.slice a1 n1 cap1],.func (.func 234) #[] #[.pointer (some ⟨w.heap.size+1+1+1+1,0,none⟩)],y.2,undef,undef,undef,undef,undef,undef,undef,undef],defers:=[] }) ?hAx ?assign ?body ?done ?stop
 case hIx=>exact fun c i T' A B S ⟨h0,h1,h2,h3⟩ hm hS=>⟨h0,h1,heap_kept h2 hm (fun h=>(hS _ h).2 (by rw [h1];exact .inl rfl)),h3⟩
 case h0=>exact ⟨rfl,G.out.2.2.2.1,G.out.2.2.2.2.1,rfl⟩
 case hAx=>exact fun l' i a' T' A B ⟨bx,y,h1,h2,h3,h4,h5⟩ hm=>⟨bx,y,h1,h2,h3,heap_kept h4 hm h2,h5⟩
 case assign =>
  intro l' i T' A K hi he hm hIi hlt' hll hK
  have hgi:ns[i]?=some ns[i]:=by simp [hi]
  obtain ⟨e0,e1,e2,e3,hy2,hy3⟩:=HN2.out ns[i] (List.getElem_mem hi)
  obtain ⟨p0,p1,p2,pa,pn,pc,rfl,rfl,rfl,rfl⟩:=TreeV.shape hy3
  clear hy3
  generalize ns[i]=y at hy2 hgi
  obtain ⟨yt,yv⟩:=y
  simp only at hy2
  subst hy2
  have HK:=Lh hK
  have HII:=Lh hIi
  have hs1:=hm.size
  clear hK hIi
  simp only [hgi,Option.getD_some]
  gi_wp2_with fail
  exact HK.out _ T' _ (Ext.refl _ _ _) ((Chalk.Mod.refl _ _).alloc _) (CheckI.stab (N:=0) _ _ _ _ _ HII.out ((Chalk.Mod.refl (fun _=>False) _).alloc _) (fun _ h=>h.elim)) ⟨A.heap.size,_,hgi,by omega,hs1,boxed (B:=A.heap.size+1) (Below.refl _ _) (by omega),rfl⟩
 case body =>
  rintro l' i T' a' A hi he hm hIi ⟨bx,y,hgi,hbl,hbW,hbx,rfl⟩ hlt' hwl hnl' ⟨rr,hrr⟩
  have hgi':ns[i]?=some ns[i]:=by simp [hi]
  rw [hgi] at hgi'
  simp only [Option.some.injEq] at hgi'
  subst hgi'
  have hty:=HN2.out ns[i] (List.getElem_mem hi)
  have hall:(ns.take (i+1)).all (fun p=>nodeOk p.1 m)=((ns.take i).all (fun p=>nodeOk p.1 m)&&nodeOk (ns[i]).1 m):=by
   rw [List.take_succ_eq_append_getElem hi,List.all_append];simp
  have hfalse:nodeOk (ns[i]).1 m=false->ns.all (fun p=>nodeOk p.1 m)=false:=fun h=>by
   rw [List.all_eq_false];exact ⟨ns[i],List.getElem_mem hi,by simp [h]⟩
  generalize ns[i]=y at hty hbx hall hfalse
  obtain ⟨⟨yk,yv,yn,yl⟩,yx⟩:=y
  obtain ⟨pa,pb,po,pc,hyx,_⟩:=hty.open
  simp only at hyx
  subst hyx
  clear hty
  obtain ⟨hT',hrb,hsb,hok⟩:=hIi
  have d0:A.cell? ⟨w.heap.size+1,0,none⟩=some (.int .i64 m):=cH (heap_kept G.out.2.2.1 hm (by omega)) rfl
  simp only [Value.cells] at hbx
  have b0:A.cell? ⟨bx,0,none⟩=some (.int .i64 yk):=cH hbx rfl
  have b1:A.cell? ⟨bx,1,none⟩=some (.int .i64 yv):=cH hbx rfl
  have b2:A.cell? ⟨bx,2,none⟩=some (.int .i64 yn):=cH hbx rfl
  have b3:A.cell? ⟨bx,3,none⟩=some (.slice pa yl.length pc):=cH hbx rfl
  have r0:A.cell? ⟨w.heap.size+1+1,0,none⟩=some (.int .i64 0):=cH hrb rfl
  have s0:A.cell? ⟨w.heap.size+1+1+1,0,none⟩=some (.int .i64 i):=cH hsb rfl
  have r1:A.frozen? ⟨w.heap.size+1+1,0,none⟩=false:=fH hrb
  have s1:A.frozen? ⟨w.heap.size+1+1+1,0,none⟩=false:=fH hsb
  have HH:=Lh (aI hall (aI hfalse (aI hok (aI hrb hsb))))
  have HTE:=Lh hT'
  have hlen:ns.length<=2000000:=by have:=congrArg List.length HN1.out;simp [pre_length] at this;omega
  clear hall hfalse hok hrb hsb hbx hT' hrr
  gi_wp2_with fail
  refine ⟨trivial,rfl,CallsIn.inRound l' ((callsIn_wide.2 (formed_anyX _ _ _ _ yl _ _ _)).mono ?_)⟩
  rintro e A2 ⟨rfl,hb2⟩
  obtain ⟨hall,hfalse,hok,hrb,hsb⟩:=HH.out
  have hrb2:A2.heap[w.heap.size+1+1]?=some (.cells #[.int .i64 0] 40 (0,0)):=(hb2.block _ (gS hrb).1).trans hrb
  have hsb2:A2.heap[w.heap.size+1+1+1]?=some (.cells #[.int .i64 i] 3 (0,0)):=(hb2.block _ (gS hsb).1).trans hsb
  have r0':A2.cell? ⟨w.heap.size+1+1,0,none⟩=some (.int .i64 0):=cH hrb2 rfl
  have s0':A2.cell? ⟨w.heap.size+1+1+1,0,none⟩=some (.int .i64 i):=cH hsb2 rfl
  have r1':A2.frozen? ⟨w.heap.size+1+1,0,none⟩=false:=fH hrb2
  have s1':A2.frozen? ⟨w.heap.size+1+1+1,0,none⟩=false:=fH hsb2
  have hT':=HTE.out
  generalize hnd:nodeOk (Tr.mk yk yv yn yl) m=nd at hall hfalse ⊢
  have HAL:=Lh (aI hall (aI hfalse (aI hok (aI hrb2 hsb2))))
  have HTE2:=Lh hT'
  clear hall hfalse hok hrb hsb hrb2 hsb2 hT' r0 s0 r1 s1 b0 b1 b2 b3 d0 hnd HTE HH
  cases nd
  ·gi_wp2_with fail
   have hT':=HTE2.out
   refine ⟨T',fun k hk=>.inl hk,(Chalk.Mod.of_below (S:=T') hb2).setCell (p:=⟨w.heap.size+1+1,0,none⟩) (fun _=>by rw [hT'];exact .inl rfl) _,rfl,hT',?_,HAL.out.2.1 (by first | rfl | trivial)⟩
   rw [box_store _ HAL.out.2.2.2.1];rfl
  ·gi_wp2_with fail
   have hT':=HTE2.out
   refine ⟨T',fun k hk=>.inl hk,(Chalk.Mod.of_below (S:=T') hb2).setCell (p:=⟨w.heap.size+1+1+1,0,none⟩) (fun _=>by rw [hT'];exact .inr rfl) _,hT',?_,?_,?_⟩
   ·rw [Below.heap_setCell _ _ _ _ (by simp)];exact HAL.out.2.2.2.1
   ·rw [box_store _ HAL.out.2.2.2.2];rfl
   ·have h1:=HAL.out.1
    rw [HAL.out.2.2.1] at h1
    simpa using h1
 case done =>
  rintro D0 T' A hD0 hDlt hnD he hm ⟨hT',hrb,hsb,hok⟩ hdd
  rw [List.take_of_length_le (Nat.le_refl _)] at hok
  have hlen:=congrArg List.length HN1.out
  rw [List.length_map,pre_length] at hlen
  rw [hlen] at hsb
  have hmay:mayB t m=true:=by rw [mayB_pre,<- HN1.out,List.all_map];exact hok
  have hce:checkE t m=if 65536<t.size then 2 else 0:=by unfold checkE;rw [if_neg (by simp [hmay];omega)]
  have hmw:Below w.heap.size w A:=G.out.2.1.trans (hm.below (by have:=G.out.1;omega) (fun k hk=>by rcases hk with rfl | rfl <;> omega))
  have s0:A.cell? ⟨w.heap.size+1+1+1,0,none⟩=some (.int .i64 t.size):=cH hsb rfl
  have r0:A.cell? ⟨w.heap.size+1+1,0,none⟩=some (.int .i64 0):=cH hrb rfl
  have r1:A.frozen? ⟨w.heap.size+1+1,0,none⟩=false:=fH hrb
  have hDs:D0 ≠ w.heap.size+1+1:=by have:=G.out.1;omega
  have hD1:w.heap.size<=D0:=by have:=G.out.1;omega
  have HA:=Lh (aI hrb (aI hce (aI hmw hdd)))
  clear hrb hsb hok hlen hmay hce hmw hdd he hm hT' hnD
  have fin:∀ (c:Int) (A':World) (tm:Array Value),tm[4]?.getD undef=.pointer (some ⟨w.heap.size+1+1,0,none⟩)->checkE t m=c->A'=A.setCell ⟨w.heap.size+1+1,0,none⟩ (.int .i64 c) ->
    LeavesInM Fence.wide 0 Tryz.prog Tryz.f144 tm (fun e w'=>e=.returned (.int .i64 (checkE t m))/\Below w.heap.size w w') [{ target:=.collected D0,args:=#[] }] .returning A':=by
   intro c A' tm htm hc hA'
   obtain ⟨hrb,_,hmw,hdd⟩:=HA.out
   have hx:=box_store (i:=0) (.int .i64 c) hrb
   refine leaves_marks_at (v:=.int .i64 c) [D0] A' (by simp) (fun d hd=>?_) (fun W' hm'=>?_)
   ·simp at hd;subst hd;rw [hA',Below.heap_setCell _ _ _ _ hDs];exact hdd
   ·have hx':W'.heap[w.heap.size+1+1]?=some (.cells #[.int .i64 c] 40 (0,0)):=heap_kept (by rw [hA'];exact hx) hm' (by simp;omega)
    have hcell:W'.cell? ⟨w.heap.size+1+1,0,none⟩=some (.int .i64 c):=cH hx' rfl
    refine ⟨by simp [results,Tryz.results144,go_sem,htm,hcell],by rw [hc],?_⟩
    exact (hmw.setCell (p:=⟨w.heap.size+1+1,0,none⟩) (by simp;omega) (.int .i64 c)).trans (by rw [<- hA'];exact hm'.below (by rw [hA'];have:=hmw.size;simpa [World.setCell] using this) (fun k hk=>by simp at hk;omega))
  by_cases hbig:65536<t.size
  ·have hbig':(65536:Int)<(t.size:Int):=by omega
   gi_wp2_with fail
   exact fin 2 _ _ rfl (by rw [HA.out.2.1,if_pos hbig]) rfl
  ·have hbig':¬ (65536:Int)<(t.size:Int):=by omega
   gi_wp2_with fail
   exact fin 0 _ _ rfl (by rw [HA.out.2.1,if_neg hbig]) rfl
 case stop =>
  rintro D0 c i T' A hD0 hDlt hnD hi0 him he hm ⟨rfl,hT',hrb,hfl⟩ hdd
  have hmay:mayB t m=false:=by rw [mayB_pre,<- HN1.out,List.all_map];exact hfl
  have hce:checkE t m=1:=by unfold checkE;rw [if_pos (by simp [hmay])]
  have hmw:Below w.heap.size w A:=G.out.2.1.trans (hm.below (by have:=G.out.1;omega) (fun k hk=>by rcases hk with rfl | rfl <;> omega))
  have hDs:D0 ≠ w.heap.size+1+1:=by have:=G.out.1;omega
  have hD1:w.heap.size<=D0:=by have:=G.out.1;omega
  have HA:=Lh (aI hrb (aI hce (aI hmw hdd)))
  clear hrb hmay hce hmw hdd he hm hT' hnD hfl
  gi_wp2_with fail
  obtain ⟨hrb,hce,hmw,hdd⟩:=HA.out
  refine leaves_marks_at (v:=.int .i64 1) [D0] A (by simp) (fun d hd=>by simp at hd;subst hd;exact hdd) (fun W' hm'=>?_)
  have hx':W'.heap[w.heap.size+1+1]?=some (.cells #[.int .i64 1] 40 (0,0)):=heap_kept hrb hm' (by simp;omega)
  have hcell:W'.cell? ⟨w.heap.size+1+1,0,none⟩=some (.int .i64 1):=cH hx' rfl
  exact ⟨by simp [results,Tryz.results144,go_sem,hcell],by rw [hce],hmw.trans (hm'.below hmw.size (fun k hk=>by simp at hk;omega))⟩

theorem check_any (t:Tr) (x:Value) (m:Int) (w:World) (hs:t.size<=2000000) (ht:TreeV w (·<w.heap.size) t x) :
  Calls Tryz.prog 144 #[x,.int .i64 m] w fun e w'=>e=.returned (.int .i64 (checkE t m))/\Below w.heap.size w w':=by
 by_cases h:m<0∨65536<m
 ·have hce:checkE t m=1:=by unfold checkE;rw [if_pos (by rcases h with h | h;exact .inl h;exact .inr (.inl h))]
  rw [hce]
  obtain ⟨c0,c1,c2,c3,rfl,h'⟩:=ht
  obtain ⟨k0,k1,k2,a1,n1,cap1,rfl,rfl,rfl,rfl⟩:=TreeV.shape h'
  exact check_arg k0 k1 k2 a1 n1 cap1 m w h
 ·exact check_walk t x m w hs ht (by omega) (by omega)

end Go.Proofs.YtjjkfgjnadaheaaGreatDoor
