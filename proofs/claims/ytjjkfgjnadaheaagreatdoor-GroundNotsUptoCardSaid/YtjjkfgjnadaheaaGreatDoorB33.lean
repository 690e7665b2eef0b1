/- Joined texts: GTreeA, GTreeB. -/
import Derived.Test.YtjjkfgjnadaheaaGreatDoorB31
import Derived.Test.YtjjkfgjnadaheaaGreatDoorB32
import Derived.Test.YtjjkfgjnadaheaaGreatDoorB28
set_option maxHeartbeats 4000000
set_option maxRecDepth 100000
set_option linter.unusedVariables false
set_option linter.unusedSimpArgs false
/- ground's maker.tree: a quantifier. (written by tools/gen_gtree.py) -/
namespace Go.Chalk
open Go.RowKit
theorem Tr.size_mk (kind v k:Int) (ts:List Tr):(Tr.mk kind v k ts).size=1+sizes ts:=by rw [Tr.size]
theorem sizes_one (t:Tr):sizes [t]=t.size:=by simp [sizes]
theorem DsAt.oneT {w:World} {F:Nat->Prop} {x:D} {cs:List Value} (h:DAt w F x cs):DsAt w F [x] cs:=by rw [DsAt];exact ⟨cs,[],(List.append_nil _).symm,h,by rw [DsAt]⟩
theorem put4_heap {W:World} {H:Nat} {z0 z1 z2 z3:Value} {T:TypeId} (h:W.heap[H]?=some (.cells #[z0,z1,z2,z3] T (0,0))) (c0 c1 c2 c3:Value):(put4 W H 0 c0 c1 c2 c3).heap[H]?=some (.cells #[c0,c1,c2,c3] T (0,0)) :=
 box_store (i:=3) c3 (box_store (i:=2) c2 (box_store (i:=1) c1 (box_store (i:=0) c0 h)))
end Go.Chalk
namespace Go.Proofs.YtjjkfgjnadaheaaGreatDoor
open Go.RowKit Go.Chalk
attribute [local go_sem] Oper.semAt_some
theorem gall_any (n:Int) (name:Bs) (terms:List Trm) (binds:List Bnd) (l:List Frm) (fa:FrmA) (env:List Ev) (z:SlA) (s:Schl) (x:SchA) (w:World) (mb left:Nat) (ts:List Tr) (hn:0<=n/\n<=1099511627776) (hm:MkB w mb s x left) (hl:left<=65536)
  (hE:∀ W,Below w.heap.size w W->Calls Tryz.prog 80 #[.pointer (some ⟨mb,0,none⟩),.slice z.a env.length z.cap,ndV (.mk 14 name n terms binds l,fa)] W (EachP s x mb left W ts)) :
  Calls Tryz.prog 38 #[.pointer (some ⟨mb,0,none⟩),.slice z.a env.length z.cap,ndV (.mk 14 name n terms binds l,fa)] w (TreeP s x mb left w (.mk 4 0 0 ts)):=by
 have hmlt:=hm.lt
 obtain ⟨W0,hW0⟩:∃ W0,W0=(w.alloc (.cells (fa.cells (.mk 14 name n terms binds l)).toArray 34)).alloc (.cells #[.int .i64 0,.int .i64 0,.int .i64 0,.slice none 0 0] 39):=⟨_,rfl⟩
 have hb0:Below w.heap.size w W0:=by rw [hW0];exact ((Below.refl _ _).alloc (Nat.le_refl _) _).alloc (by simp) _
 have hz0:W0.heap.size=w.heap.size+2:=by rw [hW0];simp
 have hq0:FrmBox W0 w.heap.size (.mk 14 name n terms binds l) fa:=by rw [hW0];unfold FrmBox;rw [heap_get,if_neg (by simp),heap_get,if_pos rfl]
 have hq1:W0.heap[w.heap.size+1]?=some (.cells #[.int .i64 0,.int .i64 0,.int .i64 0,.slice none 0 0] 39 (0,0)):=by rw [hW0,heap_get,if_pos (by simp)]
 have HE:=Lh (hE W0 hb0)
 have HB:=Lh (aI hb0 (aI hq0 (aI hq1 hz0)))
 have HW0:=Lh hW0
 have HN:=Lh hn
 have HM:=Lh (aI hm hl)
 obtain ⟨c0,c1,c2,c3,c4,c5⟩:=hq0.cells
 clear hb0 hq0 hq1 hW0 hE hn hm hl hz0
 simp only [ndV,FrmA.cells,SlA.val,Frm.kind,Frm.name,Frm.n,Frm.terms,Frm.binds,Frm.l] at HE HW0 c0 c1 c2 c3 c4 c5 ⊢
 go_enter Tryz.func38,Tryz.ntmps38
 go_wp2_with fail
 rw [<- HW0.out]
 go_wp2_with fail
 refine HE.out.mono ?_
 rintro e w1 ⟨hm1,⟨hle,⟨u,rfl,hu⟩,hmk⟩ | ⟨hlt,rfl,l',hmk⟩⟩
 rotate_left
 ·refine ⟨rfl,(Chalk.Mod.of_below (S:=fun k=>k=mb) HB.out.1).trans hm1 (fun _ _ h=>h),.inr ⟨?_,rfl,l',hmk⟩⟩
  simp only [Tr.size_mk,sizes_one];omega
 clear c0 c1 c2 c3 c4 c5
 have hmw:=hm1.size
 have q0:FrmBox w1 w.heap.size (.mk 14 name n terms binds l) fa:=heap_kept HB.out.2.1 hm1 (by omega)
 have q1:=heap_kept HB.out.2.2.1 hm1 (by omega)
 obtain ⟨c0,_,c2,_,_,_⟩:=q0.cells
 simp only [Frm.kind,Frm.n] at c0 c2
 have hlw:w.heap.size+1<w1.heap.size:=(gS q1).1
 obtain ⟨l1,hl1⟩:∃ l1,left - sizes ts=l1:=⟨_,rfl⟩
 have hmk1:MkB w1 mb s x (l1:Nat):=by rw [show ((l1:Nat):Int)=(left:Int) - sizes ts by omega];exact hmk
 have HFN:Hid (∀ W',Chalk.Mod (fun k=>k=mb∨k=w.heap.size+1∨w1.heap.size<=k) w1 W'->Chalk.Mod (fun k=>k=mb) w W'/\SlIn W' (fun k=>w.heap.size<=k/\k<W'.heap.size) (ts.map Tr.toD) u):=Lh (fun W' h=>by
  have hz:=h.size
  have hz0:=HB.out.2.2.2
  refine ⟨((Chalk.Mod.of_below (S:=fun k=>k=mb) HB.out.1).trans hm1 (fun _ _ h=>h)).trans h (fun k hk h=>?_),(hu.agree (h.agree (fun k hk=>⟨hk.2,?_⟩))).mono (fun k hk=>⟨by have:=hk.1;omega,by have:=hk.2;omega⟩)⟩
  ·rcases h with h | h | h
   ·exact h
   ·omega
   ·omega
  ·rintro (h | h | h)
   ·have:=hk.1;omega
   ·have:=hk.1;omega
   ·have:=hk.2;omega)
 have HL1:=Lh (aI hle hl1)
 have HQ1:=Lh (aI q0 q1)
 have HMW:=Lh hmw
 clear hm1 hle hu hmk q0 q1 hl1 hmw
 go_wp2_with fail
 refine (part_any 4 u.a ts.length u.cap s x l1 mb w1 hmk1 (by have:=HM.out.2;have:=HL1.out.2;omega)).mono ?_
 rintro e w2 ⟨hm2,⟨hp,rfl,hmk2⟩ | ⟨hp,rfl,hmk2⟩⟩
 rotate_left
 ·refine ⟨rfl,(HFN.out _ (hm2.mono (fun _ h=>.inl h))).1,.inr ⟨?_,rfl,_,hmk2⟩⟩
  simp only [Tr.size_mk,sizes_one];have:=HL1.out;omega
 have q2:=heap_kept HQ1.out.2 hm2 (by omega)
 have hlw2:w.heap.size+1<w2.heap.size:=(gS q2).1
 have x0:w2.cell? ⟨w.heap.size+1,0,none⟩=some (.int .i64 0):=cH q2 rfl
 have f0:w2.frozen? ⟨w.heap.size+1,0,none⟩=false:=fH q2
 have x1:w2.cell? ⟨w.heap.size+1,1,none⟩=some (.int .i64 0):=cH q2 rfl
 have f1:w2.frozen? ⟨w.heap.size+1,1,none⟩=false:=fH q2
 have x2:w2.cell? ⟨w.heap.size+1,2,none⟩=some (.int .i64 0):=cH q2 rfl
 have f2:w2.frozen? ⟨w.heap.size+1,2,none⟩=false:=fH q2
 have x3:w2.cell? ⟨w.heap.size+1,3,none⟩=some (.slice none 0 0):=cH q2 rfl
 have f3:w2.frozen? ⟨w.heap.size+1,3,none⟩=false:=fH q2
 have HP:=Lh (aI hm2 (aI hp hmk2))
 have HQ2:=Lh q2
 clear hm2 hp hmk2 q2 hmk1
 go_wp2_with fail
 have hq3:=put4_heap HQ2.out (.int .i64 4) (.int .i64 0) (.int .i64 0) (.slice u.a ts.length u.cap)
 have hm3:=put4_mod w2 (w.heap.size+1) 0 (.int .i64 4) (.int .i64 0) (.int .i64 0) (.slice u.a ts.length u.cap)
 unfold put4 at hq3 hm3
 simp only [Nat.zero_add] at hq3 hm3
 generalize (((w2.setCell _ _).setCell _ _).setCell _ _).setCell _ _=W3 at hq3 hm3 ⊢
 have HY:=Lh (aI hq3 hm3)
 have y0:W3.cell? ⟨w.heap.size+1,0,none⟩=some (.int .i64 4):=cH hq3 rfl
 have y1:W3.cell? ⟨w.heap.size+1,1,none⟩=some (.int .i64 0):=cH hq3 rfl
 have y2:W3.cell? ⟨w.heap.size+1,2,none⟩=some (.int .i64 0):=cH hq3 rfl
 have y3:W3.cell? ⟨w.heap.size+1,3,none⟩=some (.slice u.a ts.length u.cap):=cH hq3 rfl
 clear hq3 hm3
 refine bodyPost_ret (v:=.agg #[.int .i64 4,.int .i64 0,.int .i64 0,.slice u.a ts.length u.cap]) (by simp [results,Tryz.results38,go_sem,y0,y1,y2,y3]) rfl ?_
 obtain ⟨g1,g2⟩:=HFN.out W3 ((HP.out.1.mono (fun _ h=>.inl h)).trans HY.out.2 (fun _ _ h=>.inr (.inl h)))
 have hsz:(Tr.mk 4 0 0 ts).size=1+sizes ts:=Tr.size_mk _ _ _ _
 have hq:=HL1.out
 have hp:=HP.out.2.1
 refine ⟨g1,.inl ⟨by omega,⟨_,rfl,Tr.close (i64_small (by decide) (by decide)) (i64_small (by decide) (by decide)) (i64_small (by decide) (by decide)) g2⟩,?_⟩⟩
 rw [hsz,show ((left:Int) - ((1+sizes ts:Nat):Int))=(l1:Int) - 1 by push_cast;omega]
 exact HP.out.2.2.kept HY.out.2 (by omega)

theorem gsome_any (n:Int) (name:Bs) (terms:List Trm) (binds:List Bnd) (l:List Frm) (fa:FrmA) (env:List Ev) (z:SlA) (s:Schl) (x:SchA) (w:World) (mb left:Nat) (ts:List Tr) (hn:0<=n/\n<=1099511627776) (hm:MkB w mb s x left) (hl:left<=65536)
  (hE:∀ W,Below w.heap.size w W->Calls Tryz.prog 80 #[.pointer (some ⟨mb,0,none⟩),.slice z.a env.length z.cap,ndV (.mk 15 name n terms binds l,fa)] W (EachP s x mb left W ts)) :
  Calls Tryz.prog 38 #[.pointer (some ⟨mb,0,none⟩),.slice z.a env.length z.cap,ndV (.mk 15 name n terms binds l,fa)] w (TreeP s x mb left w (.mk 5 0 0 ts)):=by
 have hmlt:=hm.lt
 obtain ⟨W0,hW0⟩:∃ W0,W0=(w.alloc (.cells (fa.cells (.mk 15 name n terms binds l)).toArray 34)).alloc (.cells #[.int .i64 0,.int .i64 0,.int .i64 0,.slice none 0 0] 39):=⟨_,rfl⟩
 have hb0:Below w.heap.size w W0:=by rw [hW0];exact ((Below.refl _ _).alloc (Nat.le_refl _) _).alloc (by simp) _
 have hz0:W0.heap.size=w.heap.size+2:=by rw [hW0];simp
 have hq0:FrmBox W0 w.heap.size (.mk 15 name n terms binds l) fa:=by rw [hW0];unfold FrmBox;rw [heap_get,if_neg (by simp),heap_get,if_pos rfl]
 have hq1:W0.heap[w.heap.size+1]?=some (.cells #[.int .i64 0,.int .i64 0,.int .i64 0,.slice none 0 0] 39 (0,0)):=by rw [hW0,heap_get,if_pos (by simp)]
 have HE:=Lh (hE W0 hb0)
 have HB:=Lh (aI hb0 (aI hq0 (aI hq1 hz0)))
 have HW0:=Lh hW0
 have HN:=Lh hn
 have HM:=Lh (aI hm hl)
 obtain ⟨c0,c1,c2,c3,c4,c5⟩:=hq0.cells
 clear hb0 hq0 hq1 hW0 hE hn hm hl hz0
 simp only [ndV,FrmA.cells,SlA.val,Frm.kind,Frm.name,Frm.n,Frm.terms,Frm.binds,Frm.l] at HE HW0 c0 c1 c2 c3 c4 c5 ⊢
 go_enter Tryz.func38,Tryz.ntmps38
 go_wp2_with fail
 rw [<- HW0.out]
 go_wp2_with fail
 refine HE.out.mono ?_
 rintro e w1 ⟨hm1,⟨hle,⟨u,rfl,hu⟩,hmk⟩ | ⟨hlt,rfl,l',hmk⟩⟩
 rotate_left
 ·refine ⟨rfl,(Chalk.Mod.of_below (S:=fun k=>k=mb) HB.out.1).trans hm1 (fun _ _ h=>h),.inr ⟨?_,rfl,l',hmk⟩⟩
  simp only [Tr.size_mk,sizes_one];omega
 clear c0 c1 c2 c3 c4 c5
 have hmw:=hm1.size
 have q0:FrmBox w1 w.heap.size (.mk 15 name n terms binds l) fa:=heap_kept HB.out.2.1 hm1 (by omega)
 have q1:=heap_kept HB.out.2.2.1 hm1 (by omega)
 obtain ⟨c0,_,c2,_,_,_⟩:=q0.cells
 simp only [Frm.kind,Frm.n] at c0 c2
 have hlw:w.heap.size+1<w1.heap.size:=(gS q1).1
 obtain ⟨l1,hl1⟩:∃ l1,left - sizes ts=l1:=⟨_,rfl⟩
 have hmk1:MkB w1 mb s x (l1:Nat):=by rw [show ((l1:Nat):Int)=(left:Int) - sizes ts by omega];exact hmk
 have HFN:Hid (∀ W',Chalk.Mod (fun k=>k=mb∨k=w.heap.size+1∨w1.heap.size<=k) w1 W'->Chalk.Mod (fun k=>k=mb) w W'/\SlIn W' (fun k=>w.heap.size<=k/\k<W'.heap.size) (ts.map Tr.toD) u):=Lh (fun W' h=>by
  have hz:=h.size
  have hz0:=HB.out.2.2.2
  refine ⟨((Chalk.Mod.of_below (S:=fun k=>k=mb) HB.out.1).trans hm1 (fun _ _ h=>h)).trans h (fun k hk h=>?_),(hu.agree (h.agree (fun k hk=>⟨hk.2,?_⟩))).mono (fun k hk=>⟨by have:=hk.1;omega,by have:=hk.2;omega⟩)⟩
  ·rcases h with h | h | h
   ·exact h
   ·omega
   ·omega
  ·rintro (h | h | h)
   ·have:=hk.1;omega
   ·have:=hk.1;omega
   ·have:=hk.2;omega)
 have HL1:=Lh (aI hle hl1)
 have HQ1:=Lh (aI q0 q1)
 have HMW:=Lh hmw
 clear hm1 hle hu hmk q0 q1 hl1 hmw
 go_wp2_with fail
 refine (part_any 5 u.a ts.length u.cap s x l1 mb w1 hmk1 (by have:=HM.out.2;have:=HL1.out.2;omega)).mono ?_
 rintro e w2 ⟨hm2,⟨hp,rfl,hmk2⟩ | ⟨hp,rfl,hmk2⟩⟩
 rotate_left
 ·refine ⟨rfl,(HFN.out _ (hm2.mono (fun _ h=>.inl h))).1,.inr ⟨?_,rfl,_,hmk2⟩⟩
  simp only [Tr.size_mk,sizes_one];have:=HL1.out;omega
 have q2:=heap_kept HQ1.out.2 hm2 (by omega)
 have hlw2:w.heap.size+1<w2.heap.size:=(gS q2).1
 have x0:w2.cell? ⟨w.heap.size+1,0,none⟩=some (.int .i64 0):=cH q2 rfl
 have f0:w2.frozen? ⟨w.heap.size+1,0,none⟩=false:=fH q2
 have x1:w2.cell? ⟨w.heap.size+1,1,none⟩=some (.int .i64 0):=cH q2 rfl
 have f1:w2.frozen? ⟨w.heap.size+1,1,none⟩=false:=fH q2
 have x2:w2.cell? ⟨w.heap.size+1,2,none⟩=some (.int .i64 0):=cH q2 rfl
 have f2:w2.frozen? ⟨w.heap.size+1,2,none⟩=false:=fH q2
 have x3:w2.cell? ⟨w.heap.size+1,3,none⟩=some (.slice none 0 0):=cH q2 rfl
 have f3:w2.frozen? ⟨w.heap.size+1,3,none⟩=false:=fH q2
 have HP:=Lh (aI hm2 (aI hp hmk2))
 have HQ2:=Lh q2
 clear hm2 hp hmk2 q2 hmk1
 go_wp2_with fail
 have hq3:=put4_heap HQ2.out (.int .i64 5) (.int .i64 0) (.int .i64 0) (.slice u.a ts.length u.cap)
 have hm3:=put4_mod w2 (w.heap.size+1) 0 (.int .i64 5) (.int .i64 0) (.int .i64 0) (.slice u.a ts.length u.cap)
 unfold put4 at hq3 hm3
 simp only [Nat.zero_add] at hq3 hm3
 generalize (((w2.setCell _ _).setCell _ _).setCell _ _).setCell _ _=W3 at hq3 hm3 ⊢
 have HY:=Lh (aI hq3 hm3)
 have y0:W3.cell? ⟨w.heap.size+1,0,none⟩=some (.int .i64 5):=cH hq3 rfl
 have y1:W3.cell? ⟨w.heap.size+1,1,none⟩=some (.int .i64 0):=cH hq3 rfl
 have y2:W3.cell? ⟨w.heap.size+1,2,none⟩=some (.int .i64 0):=cH hq3 rfl
 have y3:W3.cell? ⟨w.heap.size+1,3,none⟩=some (.slice u.a ts.length u.cap):=cH hq3 rfl
 clear hq3 hm3
 refine bodyPost_ret (v:=.agg #[.int .i64 5,.int .i64 0,.int .i64 0,.slice u.a ts.length u.cap]) (by simp [results,Tryz.results38,go_sem,y0,y1,y2,y3]) rfl ?_
 obtain ⟨g1,g2⟩:=HFN.out W3 ((HP.out.1.mono (fun _ h=>.inl h)).trans HY.out.2 (fun _ _ h=>.inr (.inl h)))
 have hsz:(Tr.mk 5 0 0 ts).size=1+sizes ts:=Tr.size_mk _ _ _ _
 have hq:=HL1.out
 have hp:=HP.out.2.1
 refine ⟨g1,.inl ⟨by omega,⟨_,rfl,Tr.close (i64_small (by decide) (by decide)) (i64_small (by decide) (by decide)) (i64_small (by decide) (by decide)) g2⟩,?_⟩⟩
 rw [hsz,show ((left:Int) - ((1+sizes ts:Nat):Int))=(l1:Int) - 1 by push_cast;omega]
 exact HP.out.2.2.kept HY.out.2 (by omega)

theorem gleast_any (n:Int) (name:Bs) (terms:List Trm) (binds:List Bnd) (l:List Frm) (fa:FrmA) (env:List Ev) (z:SlA) (s:Schl) (x:SchA) (w:World) (mb left:Nat) (ts:List Tr) (hn:0<=n/\n<=1099511627776) (hm:MkB w mb s x left) (hl:left<=65536)
  (hE:∀ W,Below w.heap.size w W->Calls Tryz.prog 80 #[.pointer (some ⟨mb,0,none⟩),.slice z.a env.length z.cap,ndV (.mk 16 name n terms binds l,fa)] W (EachP s x mb left W ts)) :
  Calls Tryz.prog 38 #[.pointer (some ⟨mb,0,none⟩),.slice z.a env.length z.cap,ndV (.mk 16 name n terms binds l,fa)] w (TreeP s x mb left w (.mk 6 0 n ts)):=by
 have hmlt:=hm.lt
 obtain ⟨W0,hW0⟩:∃ W0,W0=(w.alloc (.cells (fa.cells (.mk 16 name n terms binds l)).toArray 34)).alloc (.cells #[.int .i64 0,.int .i64 0,.int .i64 0,.slice none 0 0] 39):=⟨_,rfl⟩
 have hb0:Below w.heap.size w W0:=by rw [hW0];exact ((Below.refl _ _).alloc (Nat.le_refl _) _).alloc (by simp) _
 have hz0:W0.heap.size=w.heap.size+2:=by rw [hW0];simp
 have hq0:FrmBox W0 w.heap.size (.mk 16 name n terms binds l) fa:=by rw [hW0];unfold FrmBox;rw [heap_get,if_neg (by simp),heap_get,if_pos rfl]
 have hq1:W0.heap[w.heap.size+1]?=some (.cells #[.int .i64 0,.int .i64 0,.int .i64 0,.slice none 0 0] 39 (0,0)):=by rw [hW0,heap_get,if_pos (by simp)]
 have HE:=Lh (hE W0 hb0)
 have HB:=Lh (aI hb0 (aI hq0 (aI hq1 hz0)))
 have HW0:=Lh hW0
 have HN:=Lh hn
 have HM:=Lh (aI hm hl)
 obtain ⟨c0,c1,c2,c3,c4,c5⟩:=hq0.cells
 clear hb0 hq0 hq1 hW0 hE hn hm hl hz0
 simp only [ndV,FrmA.cells,SlA.val,Frm.kind,Frm.name,Frm.n,Frm.terms,Frm.binds,Frm.l] at HE HW0 c0 c1 c2 c3 c4 c5 ⊢
 go_enter Tryz.func38,Tryz.ntmps38
 go_wp2_with fail
 rw [<- HW0.out]
 go_wp2_with fail
 refine HE.out.mono ?_
 rintro e w1 ⟨hm1,⟨hle,⟨u,rfl,hu⟩,hmk⟩ | ⟨hlt,rfl,l',hmk⟩⟩
 rotate_left
 ·refine ⟨rfl,(Chalk.Mod.of_below (S:=fun k=>k=mb) HB.out.1).trans hm1 (fun _ _ h=>h),.inr ⟨?_,rfl,l',hmk⟩⟩
  simp only [Tr.size_mk,sizes_one];omega
 clear c0 c1 c2 c3 c4 c5
 have hmw:=hm1.size
 have q0:FrmBox w1 w.heap.size (.mk 16 name n terms binds l) fa:=heap_kept HB.out.2.1 hm1 (by omega)
 have q1:=heap_kept HB.out.2.2.1 hm1 (by omega)
 obtain ⟨c0,_,c2,_,_,_⟩:=q0.cells
 simp only [Frm.kind,Frm.n] at c0 c2
 have hlw:w.heap.size+1<w1.heap.size:=(gS q1).1
 obtain ⟨l1,hl1⟩:∃ l1,left - sizes ts=l1:=⟨_,rfl⟩
 have hmk1:MkB w1 mb s x (l1:Nat):=by rw [show ((l1:Nat):Int)=(left:Int) - sizes ts by omega];exact hmk
 have HFN:Hid (∀ W',Chalk.Mod (fun k=>k=mb∨k=w.heap.size+1∨w1.heap.size<=k) w1 W'->Chalk.Mod (fun k=>k=mb) w W'/\SlIn W' (fun k=>w.heap.size<=k/\k<W'.heap.size) (ts.map Tr.toD) u):=Lh (fun W' h=>by
  have hz:=h.size
  have hz0:=HB.out.2.2.2
  refine ⟨((Chalk.Mod.of_below (S:=fun k=>k=mb) HB.out.1).trans hm1 (fun _ _ h=>h)).trans h (fun k hk h=>?_),(hu.agree (h.agree (fun k hk=>⟨hk.2,?_⟩))).mono (fun k hk=>⟨by have:=hk.1;omega,by have:=hk.2;omega⟩)⟩
  ·rcases h with h | h | h
   ·exact h
   ·omega
   ·omega
  ·rintro (h | h | h)
   ·have:=hk.1;omega
   ·have:=hk.1;omega
   ·have:=hk.2;omega)
 have HL1:=Lh (aI hle hl1)
 have HQ1:=Lh (aI q0 q1)
 have HMW:=Lh hmw
 clear hm1 hle hu hmk q0 q1 hl1 hmw
 go_wp2_with fail
 refine (part_any 6 u.a ts.length u.cap s x l1 mb w1 hmk1 (by have:=HM.out.2;have:=HL1.out.2;omega)).mono ?_
 rintro e w2 ⟨hm2,⟨hp,rfl,hmk2⟩ | ⟨hp,rfl,hmk2⟩⟩
 rotate_left
 ·refine ⟨rfl,(HFN.out _ (hm2.mono (fun _ h=>.inl h))).1,.inr ⟨?_,rfl,_,hmk2⟩⟩
  simp only [Tr.size_mk,sizes_one];have:=HL1.out;omega
 have q2:=heap_kept HQ1.out.2 hm2 (by omega)
 have hf2:FrmBox w2 w.heap.size (.mk 16 name n terms binds l) fa:=heap_kept HQ1.out.1 hm2 (by omega)
 obtain ⟨c0,_,c2,_,_,_⟩:=hf2.cells
 simp only [Frm.kind,Frm.n] at c0 c2
 have hlw0:w.heap.size<w2.heap.size:=(gS hf2).1
 have hlw2:w.heap.size+1<w2.heap.size:=(gS q2).1
 have x0:w2.cell? ⟨w.heap.size+1,0,none⟩=some (.int .i64 0):=cH q2 rfl
 have f0:w2.frozen? ⟨w.heap.size+1,0,none⟩=false:=fH q2
 have x1:w2.cell? ⟨w.heap.size+1,1,none⟩=some (.int .i64 0):=cH q2 rfl
 have f1:w2.frozen? ⟨w.heap.size+1,1,none⟩=false:=fH q2
 have x2:w2.cell? ⟨w.heap.size+1,2,none⟩=some (.int .i64 0):=cH q2 rfl
 have f2:w2.frozen? ⟨w.heap.size+1,2,none⟩=false:=fH q2
 have x3:w2.cell? ⟨w.heap.size+1,3,none⟩=some (.slice none 0 0):=cH q2 rfl
 have f3:w2.frozen? ⟨w.heap.size+1,3,none⟩=false:=fH q2
 have HP:=Lh (aI hm2 (aI hp hmk2))
 have HQ2:=Lh q2
 clear hm2 hp hmk2 q2 hmk1 hf2
 go_wp2_with fail
 have hq3:=put4_heap HQ2.out (.int .i64 6) (.int .i64 0) (.int .i64 n) (.slice u.a ts.length u.cap)
 have hm3:=put4_mod w2 (w.heap.size+1) 0 (.int .i64 6) (.int .i64 0) (.int .i64 n) (.slice u.a ts.length u.cap)
 unfold put4 at hq3 hm3
 simp only [Nat.zero_add] at hq3 hm3
 generalize (((w2.setCell _ _).setCell _ _).setCell _ _).setCell _ _=W3a at hq3 hm3 ⊢
 have hq4:=(Below.heap_alloc W3a (.cells #[.int .i64 6,.int .i64 0,.int .i64 n,.slice u.a ts.length u.cap] 39) _ (gS hq3).1).trans hq3
 have hm4:=hm3.alloc (.cells #[.int .i64 6,.int .i64 0,.int .i64 n,.slice u.a ts.length u.cap] 39)
 clear hq3 hm3
 generalize W3a.alloc (.cells #[.int .i64 6,.int .i64 0,.int .i64 n,.slice u.a ts.length u.cap] 39)=W3 at hq4 hm4 ⊢
 have hq3:=hq4
 have hm3:=hm4
 clear hq4 hm4 W3a
 have HY:=Lh (aI hq3 hm3)
 have y0:W3.cell? ⟨w.heap.size+1,0,none⟩=some (.int .i64 6):=cH hq3 rfl
 have y1:W3.cell? ⟨w.heap.size+1,1,none⟩=some (.int .i64 0):=cH hq3 rfl
 have y2:W3.cell? ⟨w.heap.size+1,2,none⟩=some (.int .i64 n):=cH hq3 rfl
 have y3:W3.cell? ⟨w.heap.size+1,3,none⟩=some (.slice u.a ts.length u.cap):=cH hq3 rfl
 clear hq3 hm3
 refine bodyPost_ret (v:=.agg #[.int .i64 6,.int .i64 0,.int .i64 n,.slice u.a ts.length u.cap]) (by simp [results,Tryz.results38,go_sem,y0,y1,y2,y3]) rfl ?_
 obtain ⟨g1,g2⟩:=HFN.out W3 ((HP.out.1.mono (fun _ h=>.inl h)).trans HY.out.2 (fun _ _ h=>.inr (.inl h)))
 have hsz:(Tr.mk 6 0 n ts).size=1+sizes ts:=Tr.size_mk _ _ _ _
 have hq:=HL1.out
 have hp:=HP.out.2.1
 have hn:=HN.out
 refine ⟨g1,.inl ⟨by omega,⟨_,rfl,Tr.close (i64_small (by decide) (by decide)) (i64_small (by decide) (by decide)) (i64_small (by omega) (by omega)) g2⟩,?_⟩⟩
 rw [hsz,show ((left:Int) - ((1+sizes ts:Nat):Int))=(l1:Int) - 1 by push_cast;omega]
 exact HP.out.2.2.kept HY.out.2 (by omega)

theorem gmost_any (n:Int) (name:Bs) (terms:List Trm) (binds:List Bnd) (l:List Frm) (fa:FrmA) (env:List Ev) (z:SlA) (s:Schl) (x:SchA) (w:World) (mb left:Nat) (ts:List Tr) (hn:0<=n/\n<=1099511627776) (hm:MkB w mb s x left) (hl:left<=65536)
  (hE:∀ W,Below w.heap.size w W->Calls Tryz.prog 80 #[.pointer (some ⟨mb,0,none⟩),.slice z.a env.length z.cap,ndV (.mk 17 name n terms binds l,fa)] W (EachP s x mb left W ts)) :
  Calls Tryz.prog 38 #[.pointer (some ⟨mb,0,none⟩),.slice z.a env.length z.cap,ndV (.mk 17 name n terms binds l,fa)] w (TreeP s x mb left w (.mk 3 0 0 [.mk 6 0 (min (n+1) 1099511627776) ts])):=by
 have hmlt:=hm.lt
 obtain ⟨W0,hW0⟩:∃ W0,W0=(w.alloc (.cells (fa.cells (.mk 17 name n terms binds l)).toArray 34)).alloc (.cells #[.int .i64 0,.int .i64 0,.int .i64 0,.slice none 0 0] 39):=⟨_,rfl⟩
 have hb0:Below w.heap.size w W0:=by rw [hW0];exact ((Below.refl _ _).alloc (Nat.le_refl _) _).alloc (by simp) _
 have hz0:W0.heap.size=w.heap.size+2:=by rw [hW0];simp
 have hq0:FrmBox W0 w.heap.size (.mk 17 name n terms binds l) fa:=by rw [hW0];unfold FrmBox;rw [heap_get,if_neg (by simp),heap_get,if_pos rfl]
 have hq1:W0.heap[w.heap.size+1]?=some (.cells #[.int .i64 0,.int .i64 0,.int .i64 0,.slice none 0 0] 39 (0,0)):=by rw [hW0,heap_get,if_pos (by simp)]
 have HE:=Lh (hE W0 hb0)
 have HB:=Lh (aI hb0 (aI hq0 (aI hq1 hz0)))
 have HW0:=Lh hW0
 have HN:=Lh hn
 have HM:=Lh (aI hm hl)
 obtain ⟨c0,c1,c2,c3,c4,c5⟩:=hq0.cells
 clear hb0 hq0 hq1 hW0 hE hn hm hl hz0
 simp only [ndV,FrmA.cells,SlA.val,Frm.kind,Frm.name,Frm.n,Frm.terms,Frm.binds,Frm.l] at HE HW0 c0 c1 c2 c3 c4 c5 ⊢
 go_enter Tryz.func38,Tryz.ntmps38
 go_wp2_with fail
 rw [<- HW0.out]
 go_wp2_with fail
 refine HE.out.mono ?_
 rintro e w1 ⟨hm1,⟨hle,⟨u,rfl,hu⟩,hmk⟩ | ⟨hlt,rfl,l',hmk⟩⟩
 rotate_left
 ·refine ⟨rfl,(Chalk.Mod.of_below (S:=fun k=>k=mb) HB.out.1).trans hm1 (fun _ _ h=>h),.inr ⟨?_,rfl,l',hmk⟩⟩
  simp only [Tr.size_mk,sizes_one];omega
 clear c0 c1 c2 c3 c4 c5
 have hmw:=hm1.size
 have q0:FrmBox w1 w.heap.size (.mk 17 name n terms binds l) fa:=heap_kept HB.out.2.1 hm1 (by omega)
 have q1:=heap_kept HB.out.2.2.1 hm1 (by omega)
 obtain ⟨c0,_,c2,_,_,_⟩:=q0.cells
 simp only [Frm.kind,Frm.n] at c0 c2
 have hlw:w.heap.size+1<w1.heap.size:=(gS q1).1
 obtain ⟨l1,hl1⟩:∃ l1,left - sizes ts=l1:=⟨_,rfl⟩
 have hmk1:MkB w1 mb s x (l1:Nat):=by rw [show ((l1:Nat):Int)=(left:Int) - sizes ts by omega];exact hmk
 have HFN:Hid (∀ W',Chalk.Mod (fun k=>k=mb∨k=w.heap.size+1∨w1.heap.size<=k) w1 W'->Chalk.Mod (fun k=>k=mb) w W'/\SlIn W' (fun k=>w.heap.size<=k/\k<W'.heap.size) (ts.map Tr.toD) u):=Lh (fun W' h=>by
  have hz:=h.size
  have hz0:=HB.out.2.2.2
  refine ⟨((Chalk.Mod.of_below (S:=fun k=>k=mb) HB.out.1).trans hm1 (fun _ _ h=>h)).trans h (fun k hk h=>?_),(hu.agree (h.agree (fun k hk=>⟨hk.2,?_⟩))).mono (fun k hk=>⟨by have:=hk.1;omega,by have:=hk.2;omega⟩)⟩
  ·rcases h with h | h | h
   ·exact h
   ·omega
   ·omega
  ·rintro (h | h | h)
   ·have:=hk.1;omega
   ·have:=hk.1;omega
   ·have:=hk.2;omega)
 have HL1:=Lh (aI hle hl1)
 have HQ1:=Lh (aI q0 q1)
 have HMW:=Lh hmw
 clear hm1 hle hu hmk q0 q1 hl1 hmw
 go_wp2_with fail
 refine (part_any 6 u.a ts.length u.cap s x l1 mb w1 hmk1 (by have:=HM.out.2;have:=HL1.out.2;omega)).mono ?_
 rintro e w2 ⟨hm2,⟨hp,rfl,hmk2⟩ | ⟨hp,rfl,hmk2⟩⟩
 rotate_left
 ·refine ⟨rfl,(HFN.out _ (hm2.mono (fun _ h=>.inl h))).1,.inr ⟨?_,rfl,_,hmk2⟩⟩
  simp only [Tr.size_mk,sizes_one];have:=HL1.out;omega
 have q2:=heap_kept HQ1.out.2 hm2 (by omega)
 have hf2:FrmBox w2 w.heap.size (.mk 17 name n terms binds l) fa:=heap_kept HQ1.out.1 hm2 (by omega)
 obtain ⟨c0,_,c2,_,_,_⟩:=hf2.cells
 simp only [Frm.kind,Frm.n] at c0 c2
 have hlw0:w.heap.size<w2.heap.size:=(gS hf2).1
 have hlw2:w.heap.size+1<w2.heap.size:=(gS q2).1
 have x0:w2.cell? ⟨w.heap.size+1,0,none⟩=some (.int .i64 0):=cH q2 rfl
 have f0:w2.frozen? ⟨w.heap.size+1,0,none⟩=false:=fH q2
 have x1:w2.cell? ⟨w.heap.size+1,1,none⟩=some (.int .i64 0):=cH q2 rfl
 have f1:w2.frozen? ⟨w.heap.size+1,1,none⟩=false:=fH q2
 have x2:w2.cell? ⟨w.heap.size+1,2,none⟩=some (.int .i64 0):=cH q2 rfl
 have f2:w2.frozen? ⟨w.heap.size+1,2,none⟩=false:=fH q2
 have x3:w2.cell? ⟨w.heap.size+1,3,none⟩=some (.slice none 0 0):=cH q2 rfl
 have f3:w2.frozen? ⟨w.heap.size+1,3,none⟩=false:=fH q2
 have HP:=Lh (aI hm2 (aI hp hmk2))
 have HQ2:=Lh q2
 clear hm2 hp hmk2 q2 hmk1 hf2
 have hn0:=HN.out.1
 have hn1:=HN.out.2
 go_wp2_with fail
 obtain ⟨WA,hWA⟩:∃ WA,WA=(w2.alloc (.cells #[.int .i64 6,.int .i64 0,.int .i64 (min (n+1) 1099511627776),.slice u.a ts.length u.cap] 39)).alloc (.cells #[.int .i64 6,.int .i64 0,.int .i64 (min (n+1) 1099511627776),.slice u.a ts.length u.cap] 39):=⟨_,rfl⟩
 have hbA:Below w2.heap.size w2 WA:=by rw [hWA];exact ((Below.refl _ _).alloc (Nat.le_refl _) _).alloc (by simp) _
 have hzA:WA.heap.size=w2.heap.size+2:=by rw [hWA];simp
 have hkA:WA.heap[w2.heap.size+1]?=some (.cells #[.int .i64 6,.int .i64 0,.int .i64 (min (n+1) 1099511627776),.slice u.a ts.length u.cap] 39 (0,0)):=by rw [hWA,heap_get,if_pos (by simp)]
 obtain ⟨l2,hl2⟩:∃ l2,l1 - 1=l2:=⟨_,rfl⟩
 have hp1:=HP.out.2.1
 have hmk3:MkB WA mb s x (l2:Nat):=by
  rw [show ((l2:Nat):Int)=(l1:Int) - 1 by omega]
  exact (hbA.block mb HP.out.2.2.lt).trans HP.out.2.2
 have HA:=Lh (aI hbA (aI hzA (aI hkA hl2)))
 rw [<- hWA]
 clear hWA hbA hzA hkA hp1 hl2 x0 x1 x2 x3 f0 f1 f2 f3 c0 c2 hlw0 hlw2
 refine (part_any 3 (some ⟨w2.heap.size+1,0,none⟩) 1 1 s x l2 mb WA hmk3 (by have:=HM.out.2;have:=HL1.out.2;have:=HA.out;omega)).mono ?_
 rintro e w3 ⟨hm3,⟨hp,rfl,hmk4⟩ | ⟨hp,rfl,hmk4⟩⟩
 rotate_left
 ·refine ⟨rfl,(HFN.out _ ((HP.out.1.mono (fun _ h=>.inl h)).trans ((Chalk.Mod.of_below (S:=fun k=>k=mb) HA.out.1).trans hm3 (fun _ _ h=>h)) (fun _ _ h=>.inl h))).1,.inr ⟨?_,rfl,_,hmk4⟩⟩
  simp only [Tr.size_mk,sizes_one];have:=HL1.out;have:=HA.out;have:=HP.out.2.1;omega
 have q3:=heap_kept ((HA.out.1.block _ (gS HQ2.out).1).trans HQ2.out) hm3 (by omega)
 have k3:=heap_kept HA.out.2.2.1 hm3 (by have:=HP.out.2.2.lt;omega)
 have hlw3:w.heap.size+1<w3.heap.size:=(gS q3).1
 have x0:w3.cell? ⟨w.heap.size+1,0,none⟩=some (.int .i64 0):=cH q3 rfl
 have f0:w3.frozen? ⟨w.heap.size+1,0,none⟩=false:=fH q3
 have x1:w3.cell? ⟨w.heap.size+1,1,none⟩=some (.int .i64 0):=cH q3 rfl
 have f1:w3.frozen? ⟨w.heap.size+1,1,none⟩=false:=fH q3
 have x2:w3.cell? ⟨w.heap.size+1,2,none⟩=some (.int .i64 0):=cH q3 rfl
 have f2:w3.frozen? ⟨w.heap.size+1,2,none⟩=false:=fH q3
 have x3:w3.cell? ⟨w.heap.size+1,3,none⟩=some (.slice none 0 0):=cH q3 rfl
 have f3:w3.frozen? ⟨w.heap.size+1,3,none⟩=false:=fH q3
 have HP3:=Lh (aI hm3 (aI hp (aI hmk4 k3)))
 have HQ3:=Lh q3
 clear hm3 hp hmk4 q3 k3 hmk3
 go_wp2_with fail
 have hq3:=put4_heap HQ3.out (.int .i64 3) (.int .i64 0) (.int .i64 0) (.slice (some ⟨w2.heap.size+1,0,none⟩) 1 1)
 have hm3:=put4_mod w3 (w.heap.size+1) 0 (.int .i64 3) (.int .i64 0) (.int .i64 0) (.slice (some ⟨w2.heap.size+1,0,none⟩) 1 1)
 unfold put4 at hq3 hm3
 simp only [Nat.zero_add] at hq3 hm3
 generalize (((w3.setCell _ _).setCell _ _).setCell _ _).setCell _ _=W3 at hq3 hm3 ⊢
 have HY:=Lh (aI hq3 hm3)
 have y0:W3.cell? ⟨w.heap.size+1,0,none⟩=some (.int .i64 3):=cH hq3 rfl
 have y1:W3.cell? ⟨w.heap.size+1,1,none⟩=some (.int .i64 0):=cH hq3 rfl
 have y2:W3.cell? ⟨w.heap.size+1,2,none⟩=some (.int .i64 0):=cH hq3 rfl
 have y3:W3.cell? ⟨w.heap.size+1,3,none⟩=some (.slice (some ⟨w2.heap.size+1,0,none⟩) 1 1):=cH hq3 rfl
 clear hq3 hm3
 refine bodyPost_ret (v:=.agg #[.int .i64 3,.int .i64 0,.int .i64 0,.slice (some ⟨w2.heap.size+1,0,none⟩) 1 1]) (by simp [results,Tryz.results38,go_sem,y0,y1,y2,y3]) rfl ?_
 have hmW:Chalk.Mod (fun k=>k=mb∨k=w.heap.size+1∨w1.heap.size<=k) w1 W3:=((HP.out.1.mono (fun _ h=>.inl h)).trans ((Chalk.Mod.of_below (S:=fun k=>k=mb) HA.out.1).trans HP3.out.1 (fun _ _ h=>h)) (fun _ _ h=>.inl h)).trans HY.out.2 (fun _ _ h=>.inr (.inl h))
 obtain ⟨g1,g2⟩:=HFN.out W3 hmW
 have hsz:(Tr.mk 3 0 0 [.mk 6 0 (min (n+1) 1099511627776) ts]).size=2+sizes ts:=by simp only [Tr.size_mk,sizes_one];omega
 have hq:=HL1.out
 have hp:=HP.out.2.1
 have hp3:=HP3.out.2.1
 have hA:=HA.out
 have hn:=HN.out
 have hw2:w1.heap.size<=w2.heap.size:=HP.out.1.size
 have hk3:=heap_kept HP3.out.2.2.2 HY.out.2 (by have:=HMW.out;have:=HB.out.2.2.2;omega)
 have hin:=Tr.close (kind:=6) (v:=0) (k:=min (n+1) 1099511627776) (i64_small (by decide) (by decide)) (i64_small (by decide) (by decide)) (i64_small (by omega) (by omega)) g2
 have hsl:SlIn W3 (fun k=>w.heap.size<=k/\k<W3.heap.size) ([Tr.mk 6 0 (min (n+1) 1099511627776) ts].map Tr.toD) ⟨some ⟨w2.heap.size+1,0,none⟩,w2.heap.size+1,0,1⟩ :=
  SlIn.lit hk3 (DsAt.oneT hin) ⟨by have:=HMW.out;have:=HB.out.2.2.2;omega,(gS hk3).1⟩ (by simp) (by unfold maxLen;omega)
 refine ⟨g1,.inl ⟨by omega,⟨_,rfl,Tr.close (i64_small (by decide) (by decide)) (i64_small (by decide) (by decide)) (i64_small (by decide) (by decide)) hsl⟩,?_⟩⟩
 rw [hsz,show ((left:Int) - ((2+sizes ts:Nat):Int))=(l2:Int) - 1 by push_cast;omega]
 exact HP3.out.2.2.1.kept HY.out.2 (by omega)
end Go.Proofs.YtjjkfgjnadaheaaGreatDoor
/- ground's maker.tree: a connective. (written by tools/gen_gtreeb.py) -/
namespace Go.Chalk
open Go.RowKit
theorem Mod.behind {S:Nat->Prop} {a b c:World} (h:Mod S a b) (k:Below a.heap.size b c):Mod S a c:=⟨k.os.trans h.os,k.tape.trans h.tape,k.output.trans h.output,Nat.le_trans h.size k.size,fun i hi hS=>(k.block i hi).trans (h.block i hi hS)⟩
end Go.Chalk
namespace Go.Proofs.YtjjkfgjnadaheaaGreatDoor
open Go.RowKit Go.Chalk
attribute [local go_sem] Oper.semAt_some
theorem gnot_any (n:Int) (name:Bs) (terms:List Trm) (binds:List Bnd) (l:List Frm) (fa:FrmA) (env:List Ev) (z:SlA) (s:Schl) (x:SchA) (w0 w:World) (mb left:Nat) (ts:List Tr) (hts:ts.length=l.length) (h0:Below w0.heap.size w0 w) (hmb0:w0.heap.size<=mb) (hx:FrmIn w0 (·<w0.heap.size) (.mk 10 name n terms binds l) fa) (hz:SlIn w (Off mb w) (env.map Ev.toD) z) (hm:MkB w mb s x left) (hl:left<=65536) (hll:l.length<=2000000)
  (hK:∀ (j:Nat) (hj:j<l.length) (t:Tr) (y1:FrmA) (W:World) (lf:Nat),ts[j]?=some t->Below w0.heap.size w0 W->lf<=left->MkB W mb s x lf->FrmIn w0 (·<w0.heap.size) l[j] y1->SlIn W (Off mb W) (env.map Ev.toD) z->Calls Tryz.prog 38 #[.pointer (some ⟨mb,0,none⟩),.slice z.a env.length z.cap,ndV (l[j],y1)] W (TreeP s x mb lf W t)) :
  Calls Tryz.prog 38 #[.pointer (some ⟨mb,0,none⟩),.slice z.a env.length z.cap,ndV (.mk 10 name n terms binds l,fa)] w (TreeP s x mb left w (.mk 3 0 0 ts)):=by
 have hmlt:=hm.lt
 obtain ⟨W0,hW0⟩:∃ W0,W0=(w.alloc (.cells (fa.cells (.mk 10 name n terms binds l)).toArray 34)).alloc (.cells #[.int .i64 0,.int .i64 0,.int .i64 0,.slice none 0 0] 39):=⟨_,rfl⟩
 have hb0:Below w.heap.size w W0:=by rw [hW0];exact ((Below.refl _ _).alloc (Nat.le_refl _) _).alloc (by simp) _
 have hz0:W0.heap.size=w.heap.size+2:=by rw [hW0];simp
 have hq0:FrmBox W0 w.heap.size (.mk 10 name n terms binds l) fa:=by rw [hW0];unfold FrmBox;rw [heap_get,if_neg (by simp),heap_get,if_pos rfl]
 have hq1:W0.heap[w.heap.size+1]?=some (.cells #[.int .i64 0,.int .i64 0,.int .i64 0,.slice none 0 0] 39 (0,0)):=by rw [hW0,heap_get,if_pos (by simp)]
 have HB:=Lh (aI hb0 (aI hq0 (aI hq1 hz0)))
 have HW0:=Lh hW0
 have HM:=Lh (aI hm hl)
 have HX:=Lh (aI h0 (aI hmb0 (aI hx (aI hz hll))))
 have HK:=Lh hK
 have HTS:=Lh hts
 have HFI:Hid (∀ (j:Nat) (hj:j<l.length),∃ y1:FrmA,FrmIn w0 (·<w0.heap.size) l[j] y1/\CellsAt w0 fa.l.b (fa.l.o+j*6) (y1.cells l[j])):=Lh (fun j hj=>hx.l.frm j hj)
 have HFS:Hid (SlAt (·<w0.heap.size) fa.l.a fa.l.b fa.l.o l.length):=Lh (by have:=hx.l.at_;simp only [Frm.l,List.length_map] at this;exact this)
 obtain ⟨c0,c1,c2,c3,c4,c5⟩:=hq0.cells
 obtain ⟨i0,hi0,hz0',hz1',hz2'⟩:=info_parts infoTree
 clear hb0 hq0 hq1 hW0 hm hl hz0 h0 hmb0 hx hz hK hts hll
 simp only [ndV,FrmA.cells,SlA.val,Frm.kind,Frm.name,Frm.n,Frm.terms,Frm.binds,Frm.l] at HW0 c0 c1 c2 c3 c4 c5 ⊢
 go_enter Tryz.func38,Tryz.ntmps38
 go_wp2_with fail
 rw [<- HW0.out]
 go_wp2_with fail
 clear c0 c1 c2 c3 c4 c5
 go_loopw [7,29] (fun v i wr=>∃ j:Nat,j<=l.length/\i=.int .i64 j/\Hid (KidsAt wr W0.heap.size 39 v (ts.take j)/\Chalk.Mod (fun k=>k=mb) W0 wr/\sizes (ts.take j)<=left/\MkB wr mb s x ((left:Int) - sizes (ts.take j)))) (fun _ i _=>l.length - (intOf i).toNat)
 case atStart =>
  refine ⟨0,Nat.zero_le _,rfl,Lh ⟨KidsAt.nil _ _ _,Chalk.Mod.refl _ _,by simp [sizes],?_⟩⟩
  rw [List.take_zero,sizes,show ((left:Int) - ((0:Nat):Int))=left by omega]
  exact (HB.out.1.block mb hmlt).trans HM.out.1
 case round =>
  obtain ⟨j,hj,rfl,HR⟩:=hrel
  obtain ⟨oa,ocap,hv⟩:=HR.out.1.form
  subst hv
  have hlen:(ts.take j).length=j:=by have:=HTS.out;rw [List.length_take];omega
  rw [hlen] at HR ⊢
  by_cases hlt:j<l.length
  ·have hjt:j<ts.length:=by have:=HTS.out;omega
   have htk:=List.take_succ_eq_append_getElem hjt
   have hsz1:=sizes_take_succ ts j hjt
   have hsz2:=sizes_take_le ts (j+1)
   obtain ⟨t,ht⟩:∃ t,ts[j]=t:=⟨_,rfl⟩
   have ht':ts[j]?=some t:=by rw [List.getElem?_eq_getElem hjt,ht]
   rw [ht] at htk hsz1
   obtain ⟨lf,hlf⟩:∃ lf,left - sizes (ts.take j)=lf:=⟨_,rfl⟩
   have hmk1:MkB wr mb s x (lf:Nat):=by rw [show ((lf:Nat):Int)=(left:Int) - sizes (ts.take j) by have:=HR.out.2.2.1;omega];exact HR.out.2.2.2
   have hbw:Below w0.heap.size w0 wr:=(HX.out.1.trans (HB.out.1.mono HX.out.1.size)).trans (HR.out.2.1.below (by have:=HX.out.1.size;have:=HB.out.1.size;omega) (fun k hk=>by have:=HX.out.2.1;omega))
   have hzw:SlIn wr (Off mb wr) (env.map Ev.toD) z:=(HX.out.2.2.2.1.agree (fun k hk=>(HR.out.2.1.block k (by have:=HB.out.2.2.2;have:=hk.1;omega) hk.2).trans (HB.out.1.block k hk.1))).mono (fun k hk=>⟨by have:=HB.out.2.2.2;have:=HR.out.2.1.size;have:=hk.1;omega,hk.2⟩)
   obtain ⟨y1,hy1,hc1⟩:=HFI.out j hlt
   obtain ⟨hla,hlb⟩:=HFS.out (by omega)
   obtain ⟨e0,e1,e2,e3,e4,e5⟩:=(hc1.agree (agree_of_below hbw) hlb).six
   have hcal:Hid (∀ W,Below wr.heap.size wr W->Calls Tryz.prog 38 #[.pointer (some ⟨mb,0,none⟩),.slice z.a env.length z.cap,ndV (l[j],y1)] W (TreeP s x mb lf W t)):=Lh (fun W hW=>HK.out j hlt t y1 W lf ht' (hbw.trans (hW.mono hbw.size)) (by omega) ((hW.block mb hmk1.lt).trans hmk1) hy1 ((hzw.agree (fun k hk=>hW.block k hk.1)).mono (fun k hk=>⟨by have:=hk.1;have:=hW.size;omega,hk.2⟩)))
   have HTK:=Lh (aI htk (aI hsz1 (aI hsz2 hlf)))
   have hblt:fa.l.b<wr.heap.size:=by have:=hbw.size;omega
   have HJ:=Lh hlen
   clear hmk1 hzw hy1 hc1 hbw hlb htk hsz1 hsz2 hlf hlen ht ht' hjt
   generalize l[j]=g at e0 e1 e2 e3 e4 e5 hcal
   obtain ⟨gk,gn,gm,gt,gb,gl⟩:=g
   rw [hla]
   simp only [ndV,FrmA.cells,SlA.val,Frm.kind,Frm.name,Frm.n,Frm.terms,Frm.binds,Frm.l] at hcal e0 e1 e2 e3 e4 e5
   go_wp2_with fail
   refine (hcal.out _ ((Below.refl _ _).alloc (Nat.le_refl _) _)).mono ?_
   rintro e w3 ⟨hm3,⟨hle3,⟨tcs,rfl,ht3⟩,hmk3⟩ | ⟨hlt3,rfl,l',hmk3⟩⟩
   rotate_left
   ·refine ⟨rfl,((Chalk.Mod.of_below (S:=fun k=>k=mb) HB.out.1).trans HR.out.2.1 (fun _ _ h=>h)).trans ((Chalk.Mod.of_below (S:=fun k=>k=mb) ((Below.refl _ _).alloc (Nat.le_refl _) _)).trans hm3 (fun _ _ h=>h)) (fun _ _ h=>h),.inr ⟨?_,rfl,l',hmk3⟩⟩
    have h1:=HTK.out.2.1
    have h2:=HTK.out.2.2.1
    have h3:=HTK.out.2.2.2
    have h4:=HR.out.2.2.1
    rw [Tr.size_mk];omega
   have hl4:=DAt.length _ _ ht3
   rw [Tr.width] at hl4
   obtain ⟨d0,d1,d2,d3,rfl⟩:=len_four hl4
   obtain ⟨tk0,tk1,tk2,ta,tn,tcap,rfl,rfl,rfl,rfl⟩:=TreeV.shape ht3
   have hmt:Chalk.Mod (fun k=>k=mb) wr w3:=(Chalk.Mod.of_below (S:=fun k=>k=mb) ((Below.refl _ _).alloc (Nat.le_refl _) _)).trans hm3 (fun _ _ h=>h)
   obtain ⟨F,ho,hd,hF⟩:=HR.out.1.call (W0:=w3) hmt (by have:=HB.out.2.2.2;omega) HR.out.2.1.size (DAt.mono (fun k hk=>⟨by have:=hk.1;simp at this;omega,hk.2⟩) _ _ ht3)
   have HO:=Lh ho
   have HD:=Lh (aI hd hF)
   have HM3:=Lh (aI hmt (aI hmk3 (aI hle3 (show W0.heap.size<=w3.heap.size by have:=HR.out.2.1.size;have:=hmt.size;omega))))
   have hmw3:wr.heap.size+1<=w3.heap.size:=by have:=hm3.size;simp at this;omega
   have HLT:=Lh (aI hlt HX.out.2.2.2.2)
   clear hm3 ht3 hmk3 hl4 hmt ho hd hF hle3 e0 e1 e2 e3 e4 e5
   have hll2:=HX.out.2.2.2.2
   have HLN:Hid (((ts.take j).map Tr.toD).length=j):=Lh (by rw [List.length_map,HJ.out])
   go_wp2_with (at_builtin;go_must (refine wpList_append_oneO (B:=w3.heap.size) rfl rfl _ _ 37 rfl 39 i0 _ 4 48 Tryz.underlying37 hi0 hz0' hz1' hz2' rfl (by decide) (.slice oa j ocap) ((ts.take j).map Tr.toD) t.toD [.int .i64 tk0,.int .i64 tk1,.int .i64 tk2,.slice ta tn tcap] 39 rfl rfl HO.out HD.out.1 HM3.out.2.2.2 (Tr.width _) (by rw [HLN.out];have:=HLT.out;unfold maxLen;omega) (by rw [HLN.out];have:=HLT.out;omega) ?_);intro ao cap w5 hon hb5;rw [HLN.out] at hon ⊢;have HON:=Lh (aI hon hb5);clear hon hb5)
   go_roundw
   case measure=>have:=HLT.out.1;simp [intOf];omega
   case rel =>
    refine ⟨j+1,by have:=HLT.out.1;omega,by go_num,Lh ⟨?_,?_,?_,?_⟩⟩
    ·rw [HTK.out.1];exact KidsAt.of HON.out.1 HD.out.2
    ·exact (HR.out.2.1.trans HM3.out.1 (fun _ _ h=>h)).behind HON.out.2
    ·have:=HTK.out;have:=HM3.out.2.2.1;have:=HR.out.2.2.1;omega
    ·rw [show ((left:Int) - ((sizes (ts.take (j+1)):Nat):Int))=(lf:Int) - t.size by have:=HTK.out.2.1;have:=HTK.out.2.2.2;have:=HR.out.2.2.1;omega]
     exact (HON.out.2.block mb (by have:=HB.out.2.2.2;omega)).trans HM3.out.2.1
  ·have hjl:j=l.length:=by omega
   subst hjl
   rw [List.take_of_length_le (by have:=HTS.out;omega)] at HR
   obtain ⟨u,hu,hsl⟩:=HR.out.1.sl
   simp only [SlA.val,Value.slice.injEq] at hu
   obtain ⟨rfl,-,rfl⟩:=hu
   have hm1:=HR.out.2.1
   have hmw:=hm1.size
   have q0:FrmBox wr w.heap.size (.mk 10 name n terms binds l) fa:=heap_kept HB.out.2.1 hm1 (by omega)
   have q1:=heap_kept HB.out.2.2.1 hm1 (by omega)
   obtain ⟨c0,_,c2,_,_,_⟩:=q0.cells
   simp only [Frm.kind,Frm.n] at c0 c2
   have hlw:w.heap.size+1<wr.heap.size:=(gS q1).1
   obtain ⟨l1,hl1⟩:∃ l1,left - sizes ts=l1:=⟨_,rfl⟩
   have hmk1:MkB wr mb s x (l1:Nat):=by rw [show ((l1:Nat):Int)=(left:Int) - sizes ts by have:=HR.out.2.2.1;omega];exact HR.out.2.2.2
   have HFN:Hid (∀ W',Chalk.Mod (fun k=>k=mb∨k=w.heap.size+1∨wr.heap.size<=k) wr W'->Chalk.Mod (fun k=>k=mb) w W'/\SlIn W' (fun k=>w.heap.size<=k/\k<W'.heap.size) (ts.map Tr.toD) u):=Lh (fun W' h=>by
    have hz:=h.size
    have hz0:=HB.out.2.2.2
    refine ⟨((Chalk.Mod.of_below (S:=fun k=>k=mb) HB.out.1).trans hm1 (fun _ _ h=>h)).trans h (fun k hk h=>?_),(hsl.agree (h.agree (fun k hk=>⟨hk.2,?_⟩))).mono (fun k hk=>⟨by have:=hk.1;omega,by have:=hk.2;omega⟩)⟩
    ·rcases h with h | h | h
     ·exact h
     ·omega
     ·omega
    ·rintro (h | h | h)
     ·have:=hk.1;omega
     ·have:=hk.1;omega
     ·have:=hk.2;omega)
   have HL1:=Lh (aI HR.out.2.2.1 hl1)
   have HQ1:=Lh (aI q0 q1)
   have HMW:=Lh hmw
   have HSL:=Lh hsl
   have hnl:decide ((l.length:Int)<(l.length:Int))=false:=by simp
   clear hm1 hsl q0 q1 hl1 hmw HR hlen hlt hj HK HFI HFS
   go_wp2_with fail
   refine (part_any 3 u.a l.length u.cap s x l1 mb wr hmk1 (by have:=HM.out.2;have:=HL1.out.2;omega)).mono ?_
   rintro e w2 ⟨hm2,⟨hp,rfl,hmk2⟩ | ⟨hp,rfl,hmk2⟩⟩
   rotate_left
   ·refine ⟨rfl,(HFN.out _ (hm2.mono (fun _ h=>.inl h))).1,.inr ⟨?_,rfl,_,hmk2⟩⟩
    simp only [Tr.size_mk,sizes_one];have:=HL1.out;omega
   have q2:=heap_kept HQ1.out.2 hm2 (by omega)
   have hlw2:w.heap.size+1<w2.heap.size:=(gS q2).1
   have x0:w2.cell? ⟨w.heap.size+1,0,none⟩=some (.int .i64 0):=cH q2 rfl
   have f0:w2.frozen? ⟨w.heap.size+1,0,none⟩=false:=fH q2
   have x1:w2.cell? ⟨w.heap.size+1,1,none⟩=some (.int .i64 0):=cH q2 rfl
   have f1:w2.frozen? ⟨w.heap.size+1,1,none⟩=false:=fH q2
   have x2:w2.cell? ⟨w.heap.size+1,2,none⟩=some (.int .i64 0):=cH q2 rfl
   have f2:w2.frozen? ⟨w.heap.size+1,2,none⟩=false:=fH q2
   have x3:w2.cell? ⟨w.heap.size+1,3,none⟩=some (.slice none 0 0):=cH q2 rfl
   have f3:w2.frozen? ⟨w.heap.size+1,3,none⟩=false:=fH q2
   have HP:=Lh (aI hm2 (aI hp hmk2))
   have HQ2:=Lh q2
   clear hm2 hp hmk2 q2 hmk1
   go_wp2_with fail
   have hq3:=put4_heap HQ2.out (.int .i64 3) (.int .i64 0) (.int .i64 0) (.slice u.a l.length u.cap)
   have hm3:=put4_mod w2 (w.heap.size+1) 0 (.int .i64 3) (.int .i64 0) (.int .i64 0) (.slice u.a l.length u.cap)
   unfold put4 at hq3 hm3
   simp only [Nat.zero_add] at hq3 hm3
   generalize (((w2.setCell _ _).setCell _ _).setCell _ _).setCell _ _=W3 at hq3 hm3 ⊢
   have HY:=Lh (aI hq3 hm3)
   have y0:W3.cell? ⟨w.heap.size+1,0,none⟩=some (.int .i64 3):=cH hq3 rfl
   have y1:W3.cell? ⟨w.heap.size+1,1,none⟩=some (.int .i64 0):=cH hq3 rfl
   have y2:W3.cell? ⟨w.heap.size+1,2,none⟩=some (.int .i64 0):=cH hq3 rfl
   have y3:W3.cell? ⟨w.heap.size+1,3,none⟩=some (.slice u.a l.length u.cap):=cH hq3 rfl
   clear hq3 hm3
   refine bodyPost_ret (v:=.agg #[.int .i64 3,.int .i64 0,.int .i64 0,.slice u.a l.length u.cap]) (by simp [results,Tryz.results38,go_sem,y0,y1,y2,y3]) rfl ?_
   obtain ⟨g1,g2⟩:=HFN.out W3 ((HP.out.1.mono (fun _ h=>.inl h)).trans HY.out.2 (fun _ _ h=>.inr (.inl h)))
   have hsz:(Tr.mk 3 0 0 ts).size=1+sizes ts:=Tr.size_mk _ _ _ _
   have hq:=HL1.out
   have hp:=HP.out.2.1
   have hcl:=Tr.close (kind:=3) (v:=0) (k:=0) (i64_small (by decide) (by decide)) (i64_small (by decide) (by decide)) (i64_small (by decide) (by decide)) g2
   rw [HTS.out] at hcl
   refine ⟨g1,.inl ⟨by omega,⟨_,rfl,hcl⟩,?_⟩⟩
   rw [hsz,show ((left:Int) - ((1+sizes ts:Nat):Int))=(l1:Int) - 1 by push_cast;omega]
   exact HP.out.2.2.kept HY.out.2 (by omega)

theorem gand_any (n:Int) (name:Bs) (terms:List Trm) (binds:List Bnd) (l:List Frm) (fa:FrmA) (env:List Ev) (z:SlA) (s:Schl) (x:SchA) (w0 w:World) (mb left:Nat) (ts:List Tr) (hts:ts.length=l.length) (h0:Below w0.heap.size w0 w) (hmb0:w0.heap.size<=mb) (hx:FrmIn w0 (·<w0.heap.size) (.mk 11 name n terms binds l) fa) (hz:SlIn w (Off mb w) (env.map Ev.toD) z) (hm:MkB w mb s x left) (hl:left<=65536) (hll:l.length<=2000000)
  (hK:∀ (j:Nat) (hj:j<l.length) (t:Tr) (y1:FrmA) (W:World) (lf:Nat),ts[j]?=some t->Below w0.heap.size w0 W->lf<=left->MkB W mb s x lf->FrmIn w0 (·<w0.heap.size) l[j] y1->SlIn W (Off mb W) (env.map Ev.toD) z->Calls Tryz.prog 38 #[.pointer (some ⟨mb,0,none⟩),.slice z.a env.length z.cap,ndV (l[j],y1)] W (TreeP s x mb lf W t)) :
  Calls Tryz.prog 38 #[.pointer (some ⟨mb,0,none⟩),.slice z.a env.length z.cap,ndV (.mk 11 name n terms binds l,fa)] w (TreeP s x mb left w (.mk 4 0 0 ts)):=by
 have hmlt:=hm.lt
 obtain ⟨W0,hW0⟩:∃ W0,W0=(w.alloc (.cells (fa.cells (.mk 11 name n terms binds l)).toArray 34)).alloc (.cells #[.int .i64 0,.int .i64 0,.int .i64 0,.slice none 0 0] 39):=⟨_,rfl⟩
 have hb0:Below w.heap.size w W0:=by rw [hW0];exact ((Below.refl _ _).alloc (Nat.le_refl _) _).alloc (by simp) _
 have hz0:W0.heap.size=w.heap.size+2:=by rw [hW0];simp
 have hq0:FrmBox W0 w.heap.size (.mk 11 name n terms binds l) fa:=by rw [hW0];unfold FrmBox;rw [heap_get,if_neg (by simp),heap_get,if_pos rfl]
 have hq1:W0.heap[w.heap.size+1]?=some (.cells #[.int .i64 0,.int .i64 0,.int .i64 0,.slice none 0 0] 39 (0,0)):=by rw [hW0,heap_get,if_pos (by simp)]
 have HB:=Lh (aI hb0 (aI hq0 (aI hq1 hz0)))
 have HW0:=Lh hW0
 have HM:=Lh (aI hm hl)
 have HX:=Lh (aI h0 (aI hmb0 (aI hx (aI hz hll))))
 have HK:=Lh hK
 have HTS:=Lh hts
 have HFI:Hid (∀ (j:Nat) (hj:j<l.length),∃ y1:FrmA,FrmIn w0 (·<w0.heap.size) l[j] y1/\CellsAt w0 fa.l.b (fa.l.o+j*6) (y1.cells l[j])):=Lh (fun j hj=>hx.l.frm j hj)
 have HFS:Hid (SlAt (·<w0.heap.size) fa.l.a fa.l.b fa.l.o l.length):=Lh (by have:=hx.l.at_;simp only [Frm.l,List.length_map] at this;exact this)
 obtain ⟨c0,c1,c2,c3,c4,c5⟩:=hq0.cells
 obtain ⟨i0,hi0,hz0',hz1',hz2'⟩:=info_parts infoTree
 clear hb0 hq0 hq1 hW0 hm hl hz0 h0 hmb0 hx hz hK hts hll
 simp only [ndV,FrmA.cells,SlA.val,Frm.kind,Frm.name,Frm.n,Frm.terms,Frm.binds,Frm.l] at HW0 c0 c1 c2 c3 c4 c5 ⊢
 go_enter Tryz.func38,Tryz.ntmps38
 go_wp2_with fail
 rw [<- HW0.out]
 go_wp2_with fail
 clear c0 c1 c2 c3 c4 c5
 go_loopw [7,29] (fun v i wr=>∃ j:Nat,j<=l.length/\i=.int .i64 j/\Hid (KidsAt wr W0.heap.size 39 v (ts.take j)/\Chalk.Mod (fun k=>k=mb) W0 wr/\sizes (ts.take j)<=left/\MkB wr mb s x ((left:Int) - sizes (ts.take j)))) (fun _ i _=>l.length - (intOf i).toNat)
 case atStart =>
  refine ⟨0,Nat.zero_le _,rfl,Lh ⟨KidsAt.nil _ _ _,Chalk.Mod.refl _ _,by simp [sizes],?_⟩⟩
  rw [List.take_zero,sizes,show ((left:Int) - ((0:Nat):Int))=left by omega]
  exact (HB.out.1.block mb hmlt).trans HM.out.1
 case round =>
  obtain ⟨j,hj,rfl,HR⟩:=hrel
  obtain ⟨oa,ocap,hv⟩:=HR.out.1.form
  subst hv
  have hlen:(ts.take j).length=j:=by have:=HTS.out;rw [List.length_take];omega
  rw [hlen] at HR ⊢
  by_cases hlt:j<l.length
  ·have hjt:j<ts.length:=by have:=HTS.out;omega
   have htk:=List.take_succ_eq_append_getElem hjt
   have hsz1:=sizes_take_succ ts j hjt
   have hsz2:=sizes_take_le ts (j+1)
   obtain ⟨t,ht⟩:∃ t,ts[j]=t:=⟨_,rfl⟩
   have ht':ts[j]?=some t:=by rw [List.getElem?_eq_getElem hjt,ht]
   rw [ht] at htk hsz1
   obtain ⟨lf,hlf⟩:∃ lf,left - sizes (ts.take j)=lf:=⟨_,rfl⟩
   have hmk1:MkB wr mb s x (lf:Nat):=by rw [show ((lf:Nat):Int)=(left:Int) - sizes (ts.take j) by have:=HR.out.2.2.1;omega];exact HR.out.2.2.2
   have hbw:Below w0.heap.size w0 wr:=(HX.out.1.trans (HB.out.1.mono HX.out.1.size)).trans (HR.out.2.1.below (by have:=HX.out.1.size;have:=HB.out.1.size;omega) (fun k hk=>by have:=HX.out.2.1;omega))
   have hzw:SlIn wr (Off mb wr) (env.map Ev.toD) z:=(HX.out.2.2.2.1.agree (fun k hk=>(HR.out.2.1.block k (by have:=HB.out.2.2.2;have:=hk.1;omega) hk.2).trans (HB.out.1.block k hk.1))).mono (fun k hk=>⟨by have:=HB.out.2.2.2;have:=HR.out.2.1.size;have:=hk.1;omega,hk.2⟩)
   obtain ⟨y1,hy1,hc1⟩:=HFI.out j hlt
   obtain ⟨hla,hlb⟩:=HFS.out (by omega)
   obtain ⟨e0,e1,e2,e3,e4,e5⟩:=(hc1.agree (agree_of_below hbw) hlb).six
   have hcal:Hid (∀ W,Below wr.heap.size wr W->Calls Tryz.prog 38 #[.pointer (some ⟨mb,0,none⟩),.slice z.a env.length z.cap,ndV (l[j],y1)] W (TreeP s x mb lf W t)):=Lh (fun W hW=>HK.out j hlt t y1 W lf ht' (hbw.trans (hW.mono hbw.size)) (by omega) ((hW.block mb hmk1.lt).trans hmk1) hy1 ((hzw.agree (fun k hk=>hW.block k hk.1)).mono (fun k hk=>⟨by have:=hk.1;have:=hW.size;omega,hk.2⟩)))
   have HTK:=Lh (aI htk (aI hsz1 (aI hsz2 hlf)))
   have hblt:fa.l.b<wr.heap.size:=by have:=hbw.size;omega
   have HJ:=Lh hlen
   clear hmk1 hzw hy1 hc1 hbw hlb htk hsz1 hsz2 hlf hlen ht ht' hjt
   generalize l[j]=g at e0 e1 e2 e3 e4 e5 hcal
   obtain ⟨gk,gn,gm,gt,gb,gl⟩:=g
   rw [hla]
   simp only [ndV,FrmA.cells,SlA.val,Frm.kind,Frm.name,Frm.n,Frm.terms,Frm.binds,Frm.l] at hcal e0 e1 e2 e3 e4 e5
   go_wp2_with fail
   refine (hcal.out _ ((Below.refl _ _).alloc (Nat.le_refl _) _)).mono ?_
   rintro e w3 ⟨hm3,⟨hle3,⟨tcs,rfl,ht3⟩,hmk3⟩ | ⟨hlt3,rfl,l',hmk3⟩⟩
   rotate_left
   ·refine ⟨rfl,((Chalk.Mod.of_below (S:=fun k=>k=mb) HB.out.1).trans HR.out.2.1 (fun _ _ h=>h)).trans ((Chalk.Mod.of_below (S:=fun k=>k=mb) ((Below.refl _ _).alloc (Nat.le_refl _) _)).trans hm3 (fun _ _ h=>h)) (fun _ _ h=>h),.inr ⟨?_,rfl,l',hmk3⟩⟩
    have h1:=HTK.out.2.1
    have h2:=HTK.out.2.2.1
    have h3:=HTK.out.2.2.2
    have h4:=HR.out.2.2.1
    rw [Tr.size_mk];omega
   have hl4:=DAt.length _ _ ht3
   rw [Tr.width] at hl4
   obtain ⟨d0,d1,d2,d3,rfl⟩:=len_four hl4
   obtain ⟨tk0,tk1,tk2,ta,tn,tcap,rfl,rfl,rfl,rfl⟩:=TreeV.shape ht3
   have hmt:Chalk.Mod (fun k=>k=mb) wr w3:=(Chalk.Mod.of_below (S:=fun k=>k=mb) ((Below.refl _ _).alloc (Nat.le_refl _) _)).trans hm3 (fun _ _ h=>h)
   obtain ⟨F,ho,hd,hF⟩:=HR.out.1.call (W0:=w3) hmt (by have:=HB.out.2.2.2;omega) HR.out.2.1.size (DAt.mono (fun k hk=>⟨by have:=hk.1;simp at this;omega,hk.2⟩) _ _ ht3)
   have HO:=Lh ho
   have HD:=Lh (aI hd hF)
   have HM3:=Lh (aI hmt (aI hmk3 (aI hle3 (show W0.heap.size<=w3.heap.size by have:=HR.out.2.1.size;have:=hmt.size;omega))))
   have hmw3:wr.heap.size+1<=w3.heap.size:=by have:=hm3.size;simp at this;omega
   have HLT:=Lh (aI hlt HX.out.2.2.2.2)
   clear hm3 ht3 hmk3 hl4 hmt ho hd hF hle3 e0 e1 e2 e3 e4 e5
   have hll2:=HX.out.2.2.2.2
   have HLN:Hid (((ts.take j).map Tr.toD).length=j):=Lh (by rw [List.length_map,HJ.out])
   go_wp2_with (at_builtin;go_must (refine wpList_append_oneO (B:=w3.heap.size) rfl rfl _ _ 37 rfl 39 i0 _ 4 48 Tryz.underlying37 hi0 hz0' hz1' hz2' rfl (by decide) (.slice oa j ocap) ((ts.take j).map Tr.toD) t.toD [.int .i64 tk0,.int .i64 tk1,.int .i64 tk2,.slice ta tn tcap] 39 rfl rfl HO.out HD.out.1 HM3.out.2.2.2 (Tr.width _) (by rw [HLN.out];have:=HLT.out;unfold maxLen;omega) (by rw [HLN.out];have:=HLT.out;omega) ?_);intro ao cap w5 hon hb5;rw [HLN.out] at hon ⊢;have HON:=Lh (aI hon hb5);clear hon hb5)
   go_roundw
   case measure=>have:=HLT.out.1;simp [intOf];omega
   case rel =>
    refine ⟨j+1,by have:=HLT.out.1;omega,by go_num,Lh ⟨?_,?_,?_,?_⟩⟩
    ·rw [HTK.out.1];exact KidsAt.of HON.out.1 HD.out.2
    ·exact (HR.out.2.1.trans HM3.out.1 (fun _ _ h=>h)).behind HON.out.2
    ·have:=HTK.out;have:=HM3.out.2.2.1;have:=HR.out.2.2.1;omega
    ·rw [show ((left:Int) - ((sizes (ts.take (j+1)):Nat):Int))=(lf:Int) - t.size by have:=HTK.out.2.1;have:=HTK.out.2.2.2;have:=HR.out.2.2.1;omega]
     exact (HON.out.2.block mb (by have:=HB.out.2.2.2;omega)).trans HM3.out.2.1
  ·have hjl:j=l.length:=by omega
   subst hjl
   rw [List.take_of_length_le (by have:=HTS.out;omega)] at HR
   obtain ⟨u,hu,hsl⟩:=HR.out.1.sl
   simp only [SlA.val,Value.slice.injEq] at hu
   obtain ⟨rfl,-,rfl⟩:=hu
   have hm1:=HR.out.2.1
   have hmw:=hm1.size
   have q0:FrmBox wr w.heap.size (.mk 11 name n terms binds l) fa:=heap_kept HB.out.2.1 hm1 (by omega)
   have q1:=heap_kept HB.out.2.2.1 hm1 (by omega)
   obtain ⟨c0,_,c2,_,_,_⟩:=q0.cells
   simp only [Frm.kind,Frm.n] at c0 c2
   have hlw:w.heap.size+1<wr.heap.size:=(gS q1).1
   obtain ⟨l1,hl1⟩:∃ l1,left - sizes ts=l1:=⟨_,rfl⟩
   have hmk1:MkB wr mb s x (l1:Nat):=by rw [show ((l1:Nat):Int)=(left:Int) - sizes ts by have:=HR.out.2.2.1;omega];exact HR.out.2.2.2
   have HFN:Hid (∀ W',Chalk.Mod (fun k=>k=mb∨k=w.heap.size+1∨wr.heap.size<=k) wr W'->Chalk.Mod (fun k=>k=mb) w W'/\SlIn W' (fun k=>w.heap.size<=k/\k<W'.heap.size) (ts.map Tr.toD) u):=Lh (fun W' h=>by
    have hz:=h.size
    have hz0:=HB.out.2.2.2
    refine ⟨((Chalk.Mod.of_below (S:=fun k=>k=mb) HB.out.1).trans hm1 (fun _ _ h=>h)).trans h (fun k hk h=>?_),(hsl.agree (h.agree (fun k hk=>⟨hk.2,?_⟩))).mono (fun k hk=>⟨by have:=hk.1;omega,by have:=hk.2;omega⟩)⟩
    ·rcases h with h | h | h
     ·exact h
     ·omega
     ·omega
    ·rintro (h | h | h)
     ·have:=hk.1;omega
     ·have:=hk.1;omega
     ·have:=hk.2;omega)
   have HL1:=Lh (aI HR.out.2.2.1 hl1)
   have HQ1:=Lh (aI q0 q1)
   have HMW:=Lh hmw
   have HSL:=Lh hsl
   have hnl:decide ((l.length:Int)<(l.length:Int))=false:=by simp
   clear hm1 hsl q0 q1 hl1 hmw HR hlen hlt hj HK HFI HFS
   go_wp2_with fail
   refine (part_any 4 u.a l.length u.cap s x l1 mb wr hmk1 (by have:=HM.out.2;have:=HL1.out.2;omega)).mono ?_
   rintro e w2 ⟨hm2,⟨hp,rfl,hmk2⟩ | ⟨hp,rfl,hmk2⟩⟩
   rotate_left
   ·refine ⟨rfl,(HFN.out _ (hm2.mono (fun _ h=>.inl h))).1,.inr ⟨?_,rfl,_,hmk2⟩⟩
    simp only [Tr.size_mk,sizes_one];have:=HL1.out;omega
   have q2:=heap_kept HQ1.out.2 hm2 (by omega)
   have hlw2:w.heap.size+1<w2.heap.size:=(gS q2).1
   have x0:w2.cell? ⟨w.heap.size+1,0,none⟩=some (.int .i64 0):=cH q2 rfl
   have f0:w2.frozen? ⟨w.heap.size+1,0,none⟩=false:=fH q2
   have x1:w2.cell? ⟨w.heap.size+1,1,none⟩=some (.int .i64 0):=cH q2 rfl
   have f1:w2.frozen? ⟨w.heap.size+1,1,none⟩=false:=fH q2
   have x2:w2.cell? ⟨w.heap.size+1,2,none⟩=some (.int .i64 0):=cH q2 rfl
   have f2:w2.frozen? ⟨w.heap.size+1,2,none⟩=false:=fH q2
   have x3:w2.cell? ⟨w.heap.size+1,3,none⟩=some (.slice none 0 0):=cH q2 rfl
   have f3:w2.frozen? ⟨w.heap.size+1,3,none⟩=false:=fH q2
   have HP:=Lh (aI hm2 (aI hp hmk2))
   have HQ2:=Lh q2
   clear hm2 hp hmk2 q2 hmk1
   go_wp2_with fail
   have hq3:=put4_heap HQ2.out (.int .i64 4) (.int .i64 0) (.int .i64 0) (.slice u.a l.length u.cap)
   have hm3:=put4_mod w2 (w.heap.size+1) 0 (.int .i64 4) (.int .i64 0) (.int .i64 0) (.slice u.a l.length u.cap)
   unfold put4 at hq3 hm3
   simp only [Nat.zero_add] at hq3 hm3
   generalize (((w2.setCell _ _).setCell _ _).setCell _ _).setCell _ _=W3 at hq3 hm3 ⊢
   have HY:=Lh (aI hq3 hm3)
   have y0:W3.cell? ⟨w.heap.size+1,0,none⟩=some (.int .i64 4):=cH hq3 rfl
   have y1:W3.cell? ⟨w.heap.size+1,1,none⟩=some (.int .i64 0):=cH hq3 rfl
   have y2:W3.cell? ⟨w.heap.size+1,2,none⟩=some (.int .i64 0):=cH hq3 rfl
   have y3:W3.cell? ⟨w.heap.size+1,3,none⟩=some (.slice u.a l.length u.cap):=cH hq3 rfl
   clear hq3 hm3
   refine bodyPost_ret (v:=.agg #[.int .i64 4,.int .i64 0,.int .i64 0,.slice u.a l.length u.cap]) (by simp [results,Tryz.results38,go_sem,y0,y1,y2,y3]) rfl ?_
   obtain ⟨g1,g2⟩:=HFN.out W3 ((HP.out.1.mono (fun _ h=>.inl h)).trans HY.out.2 (fun _ _ h=>.inr (.inl h)))
   have hsz:(Tr.mk 4 0 0 ts).size=1+sizes ts:=Tr.size_mk _ _ _ _
   have hq:=HL1.out
   have hp:=HP.out.2.1
   have hcl:=Tr.close (kind:=4) (v:=0) (k:=0) (i64_small (by decide) (by decide)) (i64_small (by decide) (by decide)) (i64_small (by decide) (by decide)) g2
   rw [HTS.out] at hcl
   refine ⟨g1,.inl ⟨by omega,⟨_,rfl,hcl⟩,?_⟩⟩
   rw [hsz,show ((left:Int) - ((1+sizes ts:Nat):Int))=(l1:Int) - 1 by push_cast;omega]
   exact HP.out.2.2.kept HY.out.2 (by omega)

theorem gor_any (n:Int) (name:Bs) (terms:List Trm) (binds:List Bnd) (l:List Frm) (fa:FrmA) (env:List Ev) (z:SlA) (s:Schl) (x:SchA) (w0 w:World) (mb left:Nat) (ts:List Tr) (hts:ts.length=l.length) (h0:Below w0.heap.size w0 w) (hmb0:w0.heap.size<=mb) (hx:FrmIn w0 (·<w0.heap.size) (.mk 12 name n terms binds l) fa) (hz:SlIn w (Off mb w) (env.map Ev.toD) z) (hm:MkB w mb s x left) (hl:left<=65536) (hll:l.length<=2000000)
  (hK:∀ (j:Nat) (hj:j<l.length) (t:Tr) (y1:FrmA) (W:World) (lf:Nat),ts[j]?=some t->Below w0.heap.size w0 W->lf<=left->MkB W mb s x lf->FrmIn w0 (·<w0.heap.size) l[j] y1->SlIn W (Off mb W) (env.map Ev.toD) z->Calls Tryz.prog 38 #[.pointer (some ⟨mb,0,none⟩),.slice z.a env.length z.cap,ndV (l[j],y1)] W (TreeP s x mb lf W t)) :
  Calls Tryz.prog 38 #[.pointer (some ⟨mb,0,none⟩),.slice z.a env.length z.cap,ndV (.mk 12 name n terms binds l,fa)] w (TreeP s x mb left w (.mk 5 0 0 ts)):=by
 have hmlt:=hm.lt
 obtain ⟨W0,hW0⟩:∃ W0,W0=(w.alloc (.cells (fa.cells (.mk 12 name n terms binds l)).toArray 34)).alloc (.cells #[.int .i64 0,.int .i64 0,.int .i64 0,.slice none 0 0] 39):=⟨_,rfl⟩
 have hb0:Below w.heap.size w W0:=by rw [hW0];exact ((Below.refl _ _).alloc (Nat.le_refl _) _).alloc (by simp) _
 have hz0:W0.heap.size=w.heap.size+2:=by rw [hW0];simp
 have hq0:FrmBox W0 w.heap.size (.mk 12 name n terms binds l) fa:=by rw [hW0];unfold FrmBox;rw [heap_get,if_neg (by simp),heap_get,if_pos rfl]
 have hq1:W0.heap[w.heap.size+1]?=some (.cells #[.int .i64 0,.int .i64 0,.int .i64 0,.slice none 0 0] 39 (0,0)):=by rw [hW0,heap_get,if_pos (by simp)]
 have HB:=Lh (aI hb0 (aI hq0 (aI hq1 hz0)))
 have HW0:=Lh hW0
 have HM:=Lh (aI hm hl)
 have HX:=Lh (aI h0 (aI hmb0 (aI hx (aI hz hll))))
 have HK:=Lh hK
 have HTS:=Lh hts
 have HFI:Hid (∀ (j:Nat) (hj:j<l.length),∃ y1:FrmA,FrmIn w0 (·<w0.heap.size) l[j] y1/\CellsAt w0 fa.l.b (fa.l.o+j*6) (y1.cells l[j])):=Lh (fun j hj=>hx.l.frm j hj)
 have HFS:Hid (SlAt (·<w0.heap.size) fa.l.a fa.l.b fa.l.o l.length):=Lh (by have:=hx.l.at_;simp only [Frm.l,List.length_map] at this;exact this)
 obtain ⟨c0,c1,c2,c3,c4,c5⟩:=hq0.cells
 obtain ⟨i0,hi0,hz0',hz1',hz2'⟩:=info_parts infoTree
 clear hb0 hq0 hq1 hW0 hm hl hz0 h0 hmb0 hx hz hK hts hll
 simp only [ndV,FrmA.cells,SlA.val,Frm.kind,Frm.name,Frm.n,Frm.terms,Frm.binds,Frm.l] at HW0 c0 c1 c2 c3 c4 c5 ⊢
 go_enter Tryz.func38,Tryz.ntmps38
 go_wp2_with fail
 rw [<- HW0.out]
 go_wp2_with fail
 clear c0 c1 c2 c3 c4 c5
 go_loopw [7,29] (fun v i wr=>∃ j:Nat,j<=l.length/\i=.int .i64 j/\Hid (KidsAt wr W0.heap.size 39 v (ts.take j)/\Chalk.Mod (fun k=>k=mb) W0 wr/\sizes (ts.take j)<=left/\MkB wr mb s x ((left:Int) - sizes (ts.take j)))) (fun _ i _=>l.length - (intOf i).toNat)
 case atStart =>
  refine ⟨0,Nat.zero_le _,rfl,Lh ⟨KidsAt.nil _ _ _,Chalk.Mod.refl _ _,by simp [sizes],?_⟩⟩
  rw [List.take_zero,sizes,show ((left:Int) - ((0:Nat):Int))=left by omega]
  exact (HB.out.1.block mb hmlt).trans HM.out.1
 case round =>
  obtain ⟨j,hj,rfl,HR⟩:=hrel
  obtain ⟨oa,ocap,hv⟩:=HR.out.1.form
  subst hv
  have hlen:(ts.take j).length=j:=by have:=HTS.out;rw [List.length_take];omega
  rw [hlen] at HR ⊢
  by_cases hlt:j<l.length
  ·have hjt:j<ts.length:=by have:=HTS.out;omega
   have htk:=List.take_succ_eq_append_getElem hjt
   have hsz1:=sizes_take_succ ts j hjt
   have hsz2:=sizes_take_le ts (j+1)
   obtain ⟨t,ht⟩:∃ t,ts[j]=t:=⟨_,rfl⟩
   have ht':ts[j]?=some t:=by rw [List.getElem?_eq_getElem hjt,ht]
   rw [ht] at htk hsz1
   obtain ⟨lf,hlf⟩:∃ lf,left - sizes (ts.take j)=lf:=⟨_,rfl⟩
   have hmk1:MkB wr mb s x (lf:Nat):=by rw [show ((lf:Nat):Int)=(left:Int) - sizes (ts.take j) by have:=HR.out.2.2.1;omega];exact HR.out.2.2.2
   have hbw:Below w0.heap.size w0 wr:=(HX.out.1.trans (HB.out.1.mono HX.out.1.size)).trans (HR.out.2.1.below (by have:=HX.out.1.size;have:=HB.out.1.size;omega) (fun k hk=>by have:=HX.out.2.1;omega))
   have hzw:SlIn wr (Off mb wr) (env.map Ev.toD) z:=(HX.out.2.2.2.1.agree (fun k hk=>(HR.out.2.1.block k (by have:=HB.out.2.2.2;have:=hk.1;omega) hk.2).trans (HB.out.1.block k hk.1))).mono (fun k hk=>⟨by have:=HB.out.2.2.2;have:=HR.out.2.1.size;have:=hk.1;omega,hk.2⟩)
   obtain ⟨y1,hy1,hc1⟩:=HFI.out j hlt
   obtain ⟨hla,hlb⟩:=HFS.out (by omega)
   obtain ⟨e0,e1,e2,e3,e4,e5⟩:=(hc1.agree (agree_of_below hbw) hlb).six
   have hcal:Hid (∀ W,Below wr.heap.size wr W->Calls Tryz.prog 38 #[.pointer (some ⟨mb,0,none⟩),.slice z.a env.length z.cap,ndV (l[j],y1)] W (TreeP s x mb lf W t)):=Lh (fun W hW=>HK.out j hlt t y1 W lf ht' (hbw.trans (hW.mono hbw.size)) (by omega) ((hW.block mb hmk1.lt).trans hmk1) hy1 ((hzw.agree (fun k hk=>hW.block k hk.1)).mono (fun k hk=>⟨by have:=hk.1;have:=hW.size;omega,hk.2⟩)))
   have HTK:=Lh (aI htk (aI hsz1 (aI hsz2 hlf)))
   have hblt:fa.l.b<wr.heap.size:=by have:=hbw.size;omega
   have HJ:=Lh hlen
   clear hmk1 hzw hy1 hc1 hbw hlb htk hsz1 hsz2 hlf hlen ht ht' hjt
   generalize l[j]=g at e0 e1 e2 e3 e4 e5 hcal
   obtain ⟨gk,gn,gm,gt,gb,gl⟩:=g
   rw [hla]
   simp only [ndV,FrmA.cells,SlA.val,Frm.kind,Frm.name,Frm.n,Frm.terms,Frm.binds,Frm.l] at hcal e0 e1 e2 e3 e4 e5
   go_wp2_with fail
   refine (hcal.out _ ((Below.refl _ _).alloc (Nat.le_refl _) _)).mono ?_
   rintro e w3 ⟨hm3,⟨hle3,⟨tcs,rfl,ht3⟩,hmk3⟩ | ⟨hlt3,rfl,l',hmk3⟩⟩
   rotate_left
   ·refine ⟨rfl,((Chalk.Mod.of_below (S:=fun k=>k=mb) HB.out.1).trans HR.out.2.1 (fun _ _ h=>h)).trans ((Chalk.Mod.of_below (S:=fun k=>k=mb) ((Below.refl _ _).alloc (Nat.le_refl _) _)).trans hm3 (fun _ _ h=>h)) (fun _ _ h=>h),.inr ⟨?_,rfl,l',hmk3⟩⟩
    have h1:=HTK.out.2.1
    have h2:=HTK.out.2.2.1
    have h3:=HTK.out.2.2.2
    have h4:=HR.out.2.2.1
    rw [Tr.size_mk];omega
   have hl4:=DAt.length _ _ ht3
   rw [Tr.width] at hl4
   obtain ⟨d0,d1,d2,d3,rfl⟩:=len_four hl4
   obtain ⟨tk0,tk1,tk2,ta,tn,tcap,rfl,rfl,rfl,rfl⟩:=TreeV.shape ht3
   have hmt:Chalk.Mod (fun k=>k=mb) wr w3:=(Chalk.Mod.of_below (S:=fun k=>k=mb) ((Below.refl _ _).alloc (Nat.le_refl _) _)).trans hm3 (fun _ _ h=>h)
   obtain ⟨F,ho,hd,hF⟩:=HR.out.1.call (W0:=w3) hmt (by have:=HB.out.2.2.2;omega) HR.out.2.1.size (DAt.mono (fun k hk=>⟨by have:=hk.1;simp at this;omega,hk.2⟩) _ _ ht3)
   have HO:=Lh ho
   have HD:=Lh (aI hd hF)
   have HM3:=Lh (aI hmt (aI hmk3 (aI hle3 (show W0.heap.size<=w3.heap.size by have:=HR.out.2.1.size;have:=hmt.size;omega))))
   have hmw3:wr.heap.size+1<=w3.heap.size:=by have:=hm3.size;simp at this;omega
   have HLT:=Lh (aI hlt HX.out.2.2.2.2)
   clear hm3 ht3 hmk3 hl4 hmt ho hd hF hle3 e0 e1 e2 e3 e4 e5
   have hll2:=HX.out.2.2.2.2
   have HLN:Hid (((ts.take j).map Tr.toD).length=j):=Lh (by rw [List.length_map,HJ.out])
   go_wp2_with (at_builtin;go_must (refine wpList_append_oneO (B:=w3.heap.size) rfl rfl _ _ 37 rfl 39 i0 _ 4 48 Tryz.underlying37 hi0 hz0' hz1' hz2' rfl (by decide) (.slice oa j ocap) ((ts.take j).map Tr.toD) t.toD [.int .i64 tk0,.int .i64 tk1,.int .i64 tk2,.slice ta tn tcap] 39 rfl rfl HO.out HD.out.1 HM3.out.2.2.2 (Tr.width _) (by rw [HLN.out];have:=HLT.out;unfold maxLen;omega) (by rw [HLN.out];have:=HLT.out;omega) ?_);intro ao cap w5 hon hb5;rw [HLN.out] at hon ⊢;have HON:=Lh (aI hon hb5);clear hon hb5)
   go_roundw
   case measure=>have:=HLT.out.1;simp [intOf];omega
   case rel =>
    refine ⟨j+1,by have:=HLT.out.1;omega,by go_num,Lh ⟨?_,?_,?_,?_⟩⟩
    ·rw [HTK.out.1];exact KidsAt.of HON.out.1 HD.out.2
    ·exact (HR.out.2.1.trans HM3.out.1 (fun _ _ h=>h)).behind HON.out.2
    ·have:=HTK.out;have:=HM3.out.2.2.1;have:=HR.out.2.2.1;omega
    ·rw [show ((left:Int) - ((sizes (ts.take (j+1)):Nat):Int))=(lf:Int) - t.size by have:=HTK.out.2.1;have:=HTK.out.2.2.2;have:=HR.out.2.2.1;omega]
     exact (HON.out.2.block mb (by have:=HB.out.2.2.2;omega)).trans HM3.out.2.1
  ·have hjl:j=l.length:=by omega
   subst hjl
   rw [List.take_of_length_le (by have:=HTS.out;omega)] at HR
   obtain ⟨u,hu,hsl⟩:=HR.out.1.sl
   simp only [SlA.val,Value.slice.injEq] at hu
   obtain ⟨rfl,-,rfl⟩:=hu
   have hm1:=HR.out.2.1
   have hmw:=hm1.size
   have q0:FrmBox wr w.heap.size (.mk 12 name n terms binds l) fa:=heap_kept HB.out.2.1 hm1 (by omega)
   have q1:=heap_kept HB.out.2.2.1 hm1 (by omega)
   obtain ⟨c0,_,c2,_,_,_⟩:=q0.cells
   simp only [Frm.kind,Frm.n] at c0 c2
   have hlw:w.heap.size+1<wr.heap.size:=(gS q1).1
   obtain ⟨l1,hl1⟩:∃ l1,left - sizes ts=l1:=⟨_,rfl⟩
   have hmk1:MkB wr mb s x (l1:Nat):=by rw [show ((l1:Nat):Int)=(left:Int) - sizes ts by have:=HR.out.2.2.1;omega];exact HR.out.2.2.2
   have HFN:Hid (∀ W',Chalk.Mod (fun k=>k=mb∨k=w.heap.size+1∨wr.heap.size<=k) wr W'->Chalk.Mod (fun k=>k=mb) w W'/\SlIn W' (fun k=>w.heap.size<=k/\k<W'.heap.size) (ts.map Tr.toD) u):=Lh (fun W' h=>by
    have hz:=h.size
    have hz0:=HB.out.2.2.2
    refine ⟨((Chalk.Mod.of_below (S:=fun k=>k=mb) HB.out.1).trans hm1 (fun _ _ h=>h)).trans h (fun k hk h=>?_),(hsl.agree (h.agree (fun k hk=>⟨hk.2,?_⟩))).mono (fun k hk=>⟨by have:=hk.1;omega,by have:=hk.2;omega⟩)⟩
    ·rcases h with h | h | h
     ·exact h
     ·omega
     ·omega
    ·rintro (h | h | h)
     ·have:=hk.1;omega
     ·have:=hk.1;omega
     ·have:=hk.2;omega)
   have HL1:=Lh (aI HR.out.2.2.1 hl1)
   have HQ1:=Lh (aI q0 q1)
   have HMW:=Lh hmw
   have HSL:=Lh hsl
   have hnl:decide ((l.length:Int)<(l.length:Int))=false:=by simp
   clear hm1 hsl q0 q1 hl1 hmw HR hlen hlt hj HK HFI HFS
   go_wp2_with fail
   refine (part_any 5 u.a l.length u.cap s x l1 mb wr hmk1 (by have:=HM.out.2;have:=HL1.out.2;omega)).mono ?_
   rintro e w2 ⟨hm2,⟨hp,rfl,hmk2⟩ | ⟨hp,rfl,hmk2⟩⟩
   rotate_left
   ·refine ⟨rfl,(HFN.out _ (hm2.mono (fun _ h=>.inl h))).1,.inr ⟨?_,rfl,_,hmk2⟩⟩
    simp only [Tr.size_mk,sizes_one];have:=HL1.out;omega
   have q2:=heap_kept HQ1.out.2 hm2 (by omega)
   have hlw2:w.heap.size+1<w2.heap.size:=(gS q2).1
   have x0:w2.cell? ⟨w.heap.size+1,0,none⟩=some (.int .i64 0):=cH q2 rfl
   have f0:w2.frozen? ⟨w.heap.size+1,0,none⟩=false:=fH q2
   have x1:w2.cell? ⟨w.heap.size+1,1,none⟩=some (.int .i64 0):=cH q2 rfl
   have f1:w2.frozen? ⟨w.heap.size+1,1,none⟩=false:=fH q2
   have x2:w2.cell? ⟨w.heap.size+1,2,none⟩=some (.int .i64 0):=cH q2 rfl
   have f2:w2.frozen? ⟨w.heap.size+1,2,none⟩=false:=fH q2
   have x3:w2.cell? ⟨w.heap.size+1,3,none⟩=some (.slice none 0 0):=cH q2 rfl
   have f3:w2.frozen? ⟨w.heap.size+1,3,none⟩=false:=fH q2
   have HP:=Lh (aI hm2 (aI hp hmk2))
   have HQ2:=Lh q2
   clear hm2 hp hmk2 q2 hmk1
   go_wp2_with fail
   have hq3:=put4_heap HQ2.out (.int .i64 5) (.int .i64 0) (.int .i64 0) (.slice u.a l.length u.cap)
   have hm3:=put4_mod w2 (w.heap.size+1) 0 (.int .i64 5) (.int .i64 0) (.int .i64 0) (.slice u.a l.length u.cap)
   unfold put4 at hq3 hm3
   simp only [Nat.zero_add] at hq3 hm3
   generalize (((w2.setCell _ _).setCell _ _).setCell _ _).setCell _ _=W3 at hq3 hm3 ⊢
   have HY:=Lh (aI hq3 hm3)
   have y0:W3.cell? ⟨w.heap.size+1,0,none⟩=some (.int .i64 5):=cH hq3 rfl
   have y1:W3.cell? ⟨w.heap.size+1,1,none⟩=some (.int .i64 0):=cH hq3 rfl
   have y2:W3.cell? ⟨w.heap.size+1,2,none⟩=some (.int .i64 0):=cH hq3 rfl
   have y3:W3.cell? ⟨w.heap.size+1,3,none⟩=some (.slice u.a l.length u.cap):=cH hq3 rfl
   clear hq3 hm3
   refine bodyPost_ret (v:=.agg #[.int .i64 5,.int .i64 0,.int .i64 0,.slice u.a l.length u.cap]) (by simp [results,Tryz.results38,go_sem,y0,y1,y2,y3]) rfl ?_
   obtain ⟨g1,g2⟩:=HFN.out W3 ((HP.out.1.mono (fun _ h=>.inl h)).trans HY.out.2 (fun _ _ h=>.inr (.inl h)))
   have hsz:(Tr.mk 5 0 0 ts).size=1+sizes ts:=Tr.size_mk _ _ _ _
   have hq:=HL1.out
   have hp:=HP.out.2.1
   have hcl:=Tr.close (kind:=5) (v:=0) (k:=0) (i64_small (by decide) (by decide)) (i64_small (by decide) (by decide)) (i64_small (by decide) (by decide)) g2
   rw [HTS.out] at hcl
   refine ⟨g1,.inl ⟨by omega,⟨_,rfl,hcl⟩,?_⟩⟩
   rw [hsz,show ((left:Int) - ((1+sizes ts:Nat):Int))=(l1:Int) - 1 by push_cast;omega]
   exact HP.out.2.2.kept HY.out.2 (by omega)

theorem gimp_any (n:Int) (name:Bs) (terms:List Trm) (binds:List Bnd) (l:List Frm) (fa:FrmA) (env:List Ev) (z:SlA) (s:Schl) (x:SchA) (w0 w:World) (mb left:Nat) (ts:List Tr) (hts:ts.length=l.length) (t0 t1:Tr) (hte:ts=[t0,t1]) (h0:Below w0.heap.size w0 w) (hmb0:w0.heap.size<=mb) (hx:FrmIn w0 (·<w0.heap.size) (.mk 13 name n terms binds l) fa) (hz:SlIn w (Off mb w) (env.map Ev.toD) z) (hm:MkB w mb s x left) (hl:left<=65536) (hll:l.length<=2000000)
  (hK:∀ (j:Nat) (hj:j<l.length) (t:Tr) (y1:FrmA) (W:World) (lf:Nat),ts[j]?=some t->Below w0.heap.size w0 W->lf<=left->MkB W mb s x lf->FrmIn w0 (·<w0.heap.size) l[j] y1->SlIn W (Off mb W) (env.map Ev.toD) z->Calls Tryz.prog 38 #[.pointer (some ⟨mb,0,none⟩),.slice z.a env.length z.cap,ndV (l[j],y1)] W (TreeP s x mb lf W t)) :
  Calls Tryz.prog 38 #[.pointer (some ⟨mb,0,none⟩),.slice z.a env.length z.cap,ndV (.mk 13 name n terms binds l,fa)] w (TreeP s x mb left w (.mk 5 0 0 [.mk 3 0 0 [t0],t1])):=by
 have hmlt:=hm.lt
 have HTE:=Lh hte
 obtain ⟨W0,hW0⟩:∃ W0,W0=(w.alloc (.cells (fa.cells (.mk 13 name n terms binds l)).toArray 34)).alloc (.cells #[.int .i64 0,.int .i64 0,.int .i64 0,.slice none 0 0] 39):=⟨_,rfl⟩
 have hb0:Below w.heap.size w W0:=by rw [hW0];exact ((Below.refl _ _).alloc (Nat.le_refl _) _).alloc (by simp) _
 have hz0:W0.heap.size=w.heap.size+2:=by rw [hW0];simp
 have hq0:FrmBox W0 w.heap.size (.mk 13 name n terms binds l) fa:=by rw [hW0];unfold FrmBox;rw [heap_get,if_neg (by simp),heap_get,if_pos rfl]
 have hq1:W0.heap[w.heap.size+1]?=some (.cells #[.int .i64 0,.int .i64 0,.int .i64 0,.slice none 0 0] 39 (0,0)):=by rw [hW0,heap_get,if_pos (by simp)]
 have HB:=Lh (aI hb0 (aI hq0 (aI hq1 hz0)))
 have HW0:=Lh hW0
 have HM:=Lh (aI hm hl)
 have HX:=Lh (aI h0 (aI hmb0 (aI hx (aI hz hll))))
 have HK:=Lh hK
 have HTS:=Lh hts
 have HFI:Hid (∀ (j:Nat) (hj:j<l.length),∃ y1:FrmA,FrmIn w0 (·<w0.heap.size) l[j] y1/\CellsAt w0 fa.l.b (fa.l.o+j*6) (y1.cells l[j])):=Lh (fun j hj=>hx.l.frm j hj)
 have HFS:Hid (SlAt (·<w0.heap.size) fa.l.a fa.l.b fa.l.o l.length):=Lh (by have:=hx.l.at_;simp only [Frm.l,List.length_map] at this;exact this)
 obtain ⟨c0,c1,c2,c3,c4,c5⟩:=hq0.cells
 obtain ⟨i0,hi0,hz0',hz1',hz2'⟩:=info_parts infoTree
 clear hb0 hq0 hq1 hW0 hm hl hz0 h0 hmb0 hx hz hK hts hll hte
 simp only [ndV,FrmA.cells,SlA.val,Frm.kind,Frm.name,Frm.n,Frm.terms,Frm.binds,Frm.l] at HW0 c0 c1 c2 c3 c4 c5 ⊢
 go_enter Tryz.func38,Tryz.ntmps38
 go_wp2_with fail
 rw [<- HW0.out]
 go_wp2_with fail
 clear c0 c1 c2 c3 c4 c5
 go_loopw [7,29] (fun v i wr=>∃ j:Nat,j<=l.length/\i=.int .i64 j/\Hid (KidsAt wr W0.heap.size 39 v (ts.take j)/\Chalk.Mod (fun k=>k=mb) W0 wr/\sizes (ts.take j)<=left/\MkB wr mb s x ((left:Int) - sizes (ts.take j)))) (fun _ i _=>l.length - (intOf i).toNat)
 case atStart =>
  refine ⟨0,Nat.zero_le _,rfl,Lh ⟨KidsAt.nil _ _ _,Chalk.Mod.refl _ _,by simp [sizes],?_⟩⟩
  rw [List.take_zero,sizes,show ((left:Int) - ((0:Nat):Int))=left by omega]
  exact (HB.out.1.block mb hmlt).trans HM.out.1
 case round =>
  obtain ⟨j,hj,rfl,HR⟩:=hrel
  obtain ⟨oa,ocap,hv⟩:=HR.out.1.form
  subst hv
  have hlen:(ts.take j).length=j:=by have:=HTS.out;rw [List.length_take];omega
  rw [hlen] at HR ⊢
  by_cases hlt:j<l.length
  ·have hjt:j<ts.length:=by have:=HTS.out;omega
   have htk:=List.take_succ_eq_append_getElem hjt
   have hsz1:=sizes_take_succ ts j hjt
   have hsz2:=sizes_take_le ts (j+1)
   obtain ⟨t,ht⟩:∃ t,ts[j]=t:=⟨_,rfl⟩
   have ht':ts[j]?=some t:=by rw [List.getElem?_eq_getElem hjt,ht]
   rw [ht] at htk hsz1
   obtain ⟨lf,hlf⟩:∃ lf,left - sizes (ts.take j)=lf:=⟨_,rfl⟩
   have hmk1:MkB wr mb s x (lf:Nat):=by rw [show ((lf:Nat):Int)=(left:Int) - sizes (ts.take j) by have:=HR.out.2.2.1;omega];exact HR.out.2.2.2
   have hbw:Below w0.heap.size w0 wr:=(HX.out.1.trans (HB.out.1.mono HX.out.1.size)).trans (HR.out.2.1.below (by have:=HX.out.1.size;have:=HB.out.1.size;omega) (fun k hk=>by have:=HX.out.2.1;omega))
   have hzw:SlIn wr (Off mb wr) (env.map Ev.toD) z:=(HX.out.2.2.2.1.agree (fun k hk=>(HR.out.2.1.block k (by have:=HB.out.2.2.2;have:=hk.1;omega) hk.2).trans (HB.out.1.block k hk.1))).mono (fun k hk=>⟨by have:=HB.out.2.2.2;have:=HR.out.2.1.size;have:=hk.1;omega,hk.2⟩)
   obtain ⟨y1,hy1,hc1⟩:=HFI.out j hlt
   obtain ⟨hla,hlb⟩:=HFS.out (by omega)
   obtain ⟨e0,e1,e2,e3,e4,e5⟩:=(hc1.agree (agree_of_below hbw) hlb).six
   have hcal:Hid (∀ W,Below wr.heap.size wr W->Calls Tryz.prog 38 #[.pointer (some ⟨mb,0,none⟩),.slice z.a env.length z.cap,ndV (l[j],y1)] W (TreeP s x mb lf W t)):=Lh (fun W hW=>HK.out j hlt t y1 W lf ht' (hbw.trans (hW.mono hbw.size)) (by omega) ((hW.block mb hmk1.lt).trans hmk1) hy1 ((hzw.agree (fun k hk=>hW.block k hk.1)).mono (fun k hk=>⟨by have:=hk.1;have:=hW.size;omega,hk.2⟩)))
   have HTK:=Lh (aI htk (aI hsz1 (aI hsz2 hlf)))
   have hblt:fa.l.b<wr.heap.size:=by have:=hbw.size;omega
   have HJ:=Lh hlen
   clear hmk1 hzw hy1 hc1 hbw hlb htk hsz1 hsz2 hlf hlen ht ht' hjt
   generalize l[j]=g at e0 e1 e2 e3 e4 e5 hcal
   obtain ⟨gk,gn,gm,gt,gb,gl⟩:=g
   rw [hla]
   simp only [ndV,FrmA.cells,SlA.val,Frm.kind,Frm.name,Frm.n,Frm.terms,Frm.binds,Frm.l] at hcal e0 e1 e2 e3 e4 e5
   go_wp2_with fail
   refine (hcal.out _ ((Below.refl _ _).alloc (Nat.le_refl _) _)).mono ?_
   rintro e w3 ⟨hm3,⟨hle3,⟨tcs,rfl,ht3⟩,hmk3⟩ | ⟨hlt3,rfl,l',hmk3⟩⟩
   rotate_left
   ·refine ⟨rfl,((Chalk.Mod.of_below (S:=fun k=>k=mb) HB.out.1).trans HR.out.2.1 (fun _ _ h=>h)).trans ((Chalk.Mod.of_below (S:=fun k=>k=mb) ((Below.refl _ _).alloc (Nat.le_refl _) _)).trans hm3 (fun _ _ h=>h)) (fun _ _ h=>h),.inr ⟨?_,rfl,l',hmk3⟩⟩
    have h1:=HTK.out.2.1
    have h2:=HTK.out.2.2.1
    have h3:=HTK.out.2.2.2
    have h4:=HR.out.2.2.1
    rw [HTE.out] at h2
    simp only [sizes] at h2
    simp only [Tr.size_mk,sizes];rw [HTE.out] at *;omega
   have hl4:=DAt.length _ _ ht3
   rw [Tr.width] at hl4
   obtain ⟨d0,d1,d2,d3,rfl⟩:=len_four hl4
   obtain ⟨tk0,tk1,tk2,ta,tn,tcap,rfl,rfl,rfl,rfl⟩:=TreeV.shape ht3
   have hmt:Chalk.Mod (fun k=>k=mb) wr w3:=(Chalk.Mod.of_below (S:=fun k=>k=mb) ((Below.refl _ _).alloc (Nat.le_refl _) _)).trans hm3 (fun _ _ h=>h)
   obtain ⟨F,ho,hd,hF⟩:=HR.out.1.call (W0:=w3) hmt (by have:=HB.out.2.2.2;omega) HR.out.2.1.size (DAt.mono (fun k hk=>⟨by have:=hk.1;simp at this;omega,hk.2⟩) _ _ ht3)
   have HO:=Lh ho
   have HD:=Lh (aI hd hF)
   have HM3:=Lh (aI hmt (aI hmk3 (aI hle3 (show W0.heap.size<=w3.heap.size by have:=HR.out.2.1.size;have:=hmt.size;omega))))
   have hmw3:wr.heap.size+1<=w3.heap.size:=by have:=hm3.size;simp at this;omega
   have HLT:=Lh (aI hlt HX.out.2.2.2.2)
   clear hm3 ht3 hmk3 hl4 hmt ho hd hF hle3 e0 e1 e2 e3 e4 e5
   have hll2:=HX.out.2.2.2.2
   have HLN:Hid (((ts.take j).map Tr.toD).length=j):=Lh (by rw [List.length_map,HJ.out])
   go_wp2_with (at_builtin;go_must (refine wpList_append_oneO (B:=w3.heap.size) rfl rfl _ _ 37 rfl 39 i0 _ 4 48 Tryz.underlying37 hi0 hz0' hz1' hz2' rfl (by decide) (.slice oa j ocap) ((ts.take j).map Tr.toD) t.toD [.int .i64 tk0,.int .i64 tk1,.int .i64 tk2,.slice ta tn tcap] 39 rfl rfl HO.out HD.out.1 HM3.out.2.2.2 (Tr.width _) (by rw [HLN.out];have:=HLT.out;unfold maxLen;omega) (by rw [HLN.out];have:=HLT.out;omega) ?_);intro ao cap w5 hon hb5;rw [HLN.out] at hon ⊢;have HON:=Lh (aI hon hb5);clear hon hb5)
   go_roundw
   case measure=>have:=HLT.out.1;simp [intOf];omega
   case rel =>
    refine ⟨j+1,by have:=HLT.out.1;omega,by go_num,Lh ⟨?_,?_,?_,?_⟩⟩
    ·rw [HTK.out.1];exact KidsAt.of HON.out.1 HD.out.2
    ·exact (HR.out.2.1.trans HM3.out.1 (fun _ _ h=>h)).behind HON.out.2
    ·have:=HTK.out;have:=HM3.out.2.2.1;have:=HR.out.2.2.1;omega
    ·rw [show ((left:Int) - ((sizes (ts.take (j+1)):Nat):Int))=(lf:Int) - t.size by have:=HTK.out.2.1;have:=HTK.out.2.2.2;have:=HR.out.2.2.1;omega]
     exact (HON.out.2.block mb (by have:=HB.out.2.2.2;omega)).trans HM3.out.2.1
  ·have hjl:j=l.length:=by omega
   subst hjl
   rw [List.take_of_length_le (by have:=HTS.out;omega)] at HR
   obtain ⟨u,hu,hsl⟩:=HR.out.1.sl
   simp only [SlA.val,Value.slice.injEq] at hu
   obtain ⟨rfl,-,rfl⟩:=hu
   have hm1:=HR.out.2.1
   have hmw:=hm1.size
   have q0:FrmBox wr w.heap.size (.mk 13 name n terms binds l) fa:=heap_kept HB.out.2.1 hm1 (by omega)
   have q1:=heap_kept HB.out.2.2.1 hm1 (by omega)
   obtain ⟨c0,_,c2,_,_,_⟩:=q0.cells
   simp only [Frm.kind,Frm.n] at c0 c2
   have hlw:w.heap.size+1<wr.heap.size:=(gS q1).1
   obtain ⟨l1,hl1⟩:∃ l1,left - sizes ts=l1:=⟨_,rfl⟩
   have hmk1:MkB wr mb s x (l1:Nat):=by rw [show ((l1:Nat):Int)=(left:Int) - sizes ts by have:=HR.out.2.2.1;omega];exact HR.out.2.2.2
   have HFN:Hid (∀ W',Chalk.Mod (fun k=>k=mb∨k=w.heap.size+1∨wr.heap.size<=k) wr W'->Chalk.Mod (fun k=>k=mb) w W'/\SlIn W' (fun k=>w.heap.size<=k/\k<W'.heap.size) (ts.map Tr.toD) u):=Lh (fun W' h=>by
    have hz:=h.size
    have hz0:=HB.out.2.2.2
    refine ⟨((Chalk.Mod.of_below (S:=fun k=>k=mb) HB.out.1).trans hm1 (fun _ _ h=>h)).trans h (fun k hk h=>?_),(hsl.agree (h.agree (fun k hk=>⟨hk.2,?_⟩))).mono (fun k hk=>⟨by have:=hk.1;omega,by have:=hk.2;omega⟩)⟩
    ·rcases h with h | h | h
     ·exact h
     ·omega
     ·omega
    ·rintro (h | h | h)
     ·have:=hk.1;omega
     ·have:=hk.1;omega
     ·have:=hk.2;omega)
   have HL1:=Lh (aI HR.out.2.2.1 hl1)
   have HQ1:=Lh (aI q0 q1)
   have HMW:=Lh hmw
   have HSL:=Lh hsl
   have hnl:decide ((l.length:Int)<(l.length:Int))=false:=by simp
   clear hm1 hsl q0 q1 hl1 hmw HR hlen hlt hj HK HFI HFS
   have hsl2:=HSL.out
   have hte:=HTE.out
   rw [hte] at hsl2
   obtain ⟨k00,k01,k02,ka0,kn0,kc0,hc0,hd0⟩:=hsl2.tre 0 (by simp)
   obtain ⟨k10,k11,k12,ka1,kn1,kc1,hc1,hd1⟩:=hsl2.tre 1 (by simp)
   obtain ⟨hua,hub⟩:=hsl2.at_ (by simp)
   simp only [List.getElem_cons_zero,List.getElem_cons_succ,Nat.zero_mul,Nat.add_zero,Nat.one_mul] at hc0 hc1 hd0 hd1
   have HD01:=Lh (aI hd0 (aI hd1 hub))
   have hl2:l.length=2:=by rw [<- HTS.out,hte];rfl
   rw [hl2,hua]
   have HL2:=Lh hl2
   have HKS:Hid (∀ w',Chalk.Mod (fun k=>k=mb) wr w'->w'.cell? ⟨u.b,u.o,none⟩=some (.int .i64 k00)/\w'.cell? ⟨u.b,u.o+1,none⟩=some (.int .i64 k01)/\w'.cell? ⟨u.b,u.o+2,none⟩=some (.int .i64 k02)/\w'.cell? ⟨u.b,u.o+3,none⟩=some (.slice ka0 kn0 kc0)/\w'.cell? ⟨u.b,u.o+4,none⟩=some (.int .i64 k10)/\w'.cell? ⟨u.b,u.o+5,none⟩=some (.int .i64 k11)/\w'.cell? ⟨u.b,u.o+6,none⟩=some (.int .i64 k12)/\w'.cell? ⟨u.b,u.o+7,none⟩=some (.slice ka1 kn1 kc1)):=Lh (fun w' hW=>by
    have ha:Agree (fun k=>k=u.b) wr w':=hW.agree (fun k hk=>⟨by have:=hub.2;omega,by have:=hub.1;have:=HB.out.2.2.2;omega⟩)
    obtain ⟨a0,a1,a2,a3⟩:=(hc0.agree ha rfl).four
    obtain ⟨b0,b1,b2,b3⟩:=(hc1.agree ha rfl).four
    exact ⟨a0,a1,a2,a3,b0,b1,b2,b3⟩)
   clear hsl2 hte hc0 hc1 hd0 hd1 hub hua hl2 hnl
   go_wp2_with fail
   refine wp_region_U 12 (S:=fun w'=>w'.cell? ⟨u.b,u.o,none⟩=some (.int .i64 k00)/\w'.cell? ⟨u.b,u.o+1,none⟩=some (.int .i64 k01)/\w'.cell? ⟨u.b,u.o+2,none⟩=some (.int .i64 k02)/\w'.cell? ⟨u.b,u.o+3,none⟩=some (.slice ka0 kn0 kc0)/\w'.cell? ⟨u.b,u.o+4,none⟩=some (.int .i64 k10)/\w'.cell? ⟨u.b,u.o+5,none⟩=some (.int .i64 k11)/\w'.cell? ⟨u.b,u.o+6,none⟩=some (.int .i64 k12)/\w'.cell? ⟨u.b,u.o+7,none⟩=some (.slice ka1 kn1 kc1)) (by kernel_rfl) (HKS.out _ (Chalk.Mod.refl _ _).drew) (fun hHeld=>?_)
   refine tkU (i:=0) rfl hHeld ?_
   try simp only [Act.put,ub1,ub2,ub3]
   refine tkU (i:=1) rfl hHeld ?_
   try simp only [Act.put,ub1,ub2,ub3]
   refine tkU (i:=2) rfl hHeld ?_
   try simp only [Act.put,ub1,ub2,ub3]
   refine tkU (i:=3) rfl hHeld ?_
   try simp only [Act.put,ub1,ub2,ub3]
   refine tkU (i:=4) rfl hHeld ?_
   try simp only [Act.put,ub1,ub2,ub3]
   refine tkU (i:=7) rfl hHeld ?_
   try simp only [Act.put,ub1,ub2,ub3]
   refine tkU (i:=8) rfl hHeld ?_
   try simp only [Act.put,ub1,ub2,ub3]
   refine tkU (i:=9) rfl hHeld ?_
   try simp only [Act.put,ub1,ub2,ub3]
   refine ready_U (rs:=[5]) (by kernel_rfl) (by simp) ?_
   refine cons_U rfl (fun K hK=>?_) nil_U
   go_simp
   refine hK.out _ _ ?_ (fun hHeld2=>?_)
   ·exact HKS.out _ ((Chalk.Mod.refl _ _).drew.alloc _)
   clear hK K hHeld
   have hHeld:=hHeld2
   clear hHeld2
   try simp only [Act.put,ub1,ub2,ub3]
   obtain ⟨WA,hWA⟩:∃ WA,WA=(wr.alloc (.cells #[.int .i64 k00,.int .i64 k01,.int .i64 k02,.slice ka0 kn0 kc0] 39)).drew:=⟨_,rfl⟩
   have hbA:Below wr.heap.size wr WA:=by rw [hWA];exact ((Below.refl _ _).alloc (Nat.le_refl _) _).drew
   have hzA:WA.heap.size=wr.heap.size+1:=by rw [hWA];show (wr.alloc _).heap.size=_;simp
   have hkA:WA.heap[wr.heap.size]?=some (.cells #[.int .i64 k00,.int .i64 k01,.int .i64 k02,.slice ka0 kn0 kc0] 39 (0,0)):=by rw [hWA];show (wr.alloc _).heap[wr.heap.size]?=_;rw [heap_get,if_pos rfl]
   have hmkA:MkB WA mb s x (l1:Nat):=(hbA.block mb hmk1.lt).trans hmk1
   have HA:=Lh (aI hbA (aI hzA hkA))
   rw [<- hWA] at hHeld ⊢
   clear hWA hbA hzA hkA
   refine ready_U (rs:=[6]) (by kernel_rfl) (by simp) ?_
   refine cons_U rfl (fun K hK=>?_) nil_U
   go_simp
   go_at_call 81
   refine (part_any 3 (some ⟨wr.heap.size,0,none⟩) 1 1 s x l1 mb WA hmkA (by have:=HM.out.2;have:=HL1.out.2;omega)).mono ?_
   rintro e w2 ⟨hm2,⟨hp,rfl,hmk2⟩ | ⟨hp,rfl,hmk2⟩⟩
   rotate_left
   ·refine ⟨rfl,(HFN.out _ (((Chalk.Mod.of_below (S:=fun k=>k=mb) HA.out.1).trans hm2 (fun _ _ h=>h)).mono (fun _ h=>.inl h))).1,.inr ⟨?_,rfl,_,hmk2⟩⟩
    have h1:=HL1.out
    rw [HTE.out] at h1
    simp only [sizes] at h1
    simp only [Tr.size_mk,sizes]
    omega
   have hmt:=(Chalk.Mod.of_below (S:=fun k=>k=mb) HA.out.1).trans hm2 (fun _ _ h=>h)
   have hkB:=heap_kept HA.out.2.2 hm2 (by have:=hmk1.lt;omega)
   have HP:=Lh (aI hmt (aI hp (aI hmk2 (aI hkB (show wr.heap.size+1<=w2.heap.size by have:=hm2.size;have:=HA.out.2.1;omega)))))
   clear hm2 hp hmk2 hkB
   go_simp
   refine hK.out _ _ ?_ (fun hHeld2=>?_)
   ·exact HKS.out _ hmt
   clear hK K hHeld
   have hHeld:=hHeld2
   clear hHeld2
   try simp only [Act.put,ub1,ub2,ub3]
   clear hmt
   refine ready_U (rs:=[10]) (by kernel_rfl) (by simp) ?_
   refine cons_U rfl (fun K hK=>?_) nil_U
   go_simp
   refine hK.out _ _ ?_ (fun hHeld2=>?_)
   ·exact HKS.out _ (HP.out.1.alloc _)
   clear hK K hHeld
   have hHeld:=hHeld2
   clear hHeld2
   try simp only [Act.put,ub1,ub2,ub3]
   obtain ⟨l2,hl2⟩:∃ l2,l1 - 1=l2:=⟨_,rfl⟩
   obtain ⟨WB,hWB⟩:∃ WB,WB=w2.alloc (.cells #[.int .i64 3,.int .i64 0,.int .i64 0,.slice (some ⟨wr.heap.size,0,none⟩) 1 1,.int .i64 k10,.int .i64 k11,.int .i64 k12,.slice ka1 kn1 kc1] 39):=⟨_,rfl⟩
   have hbB:Below w2.heap.size w2 WB:=by rw [hWB];exact (Below.refl _ _).alloc (Nat.le_refl _) _
   have hkB:WB.heap[w2.heap.size]?=some (.cells #[.int .i64 3,.int .i64 0,.int .i64 0,.slice (some ⟨wr.heap.size,0,none⟩) 1 1,.int .i64 k10,.int .i64 k11,.int .i64 k12,.slice ka1 kn1 kc1] 39 (0,0)):=by rw [hWB,heap_get,if_pos rfl]
   have hzB:WB.heap.size=w2.heap.size+1:=by rw [hWB];simp
   have hmkB:MkB WB mb s x (l2:Nat):=by
    rw [show ((l2:Nat):Int)=(l1:Int) - 1 by have:=HP.out.2.1;omega]
    exact (hbB.block mb HP.out.2.2.1.lt).trans HP.out.2.2.1
   have HBB:=Lh (aI hbB (aI hkB (aI hzB hl2)))
   rw [<- hWB] at hHeld ⊢
   clear hWB hbB hkB hzB hl2
   refine ready_U (rs:=[11]) (by kernel_rfl) (by simp) ?_
   refine cons_U rfl (fun K hK=>?_) nil_U
   go_simp
   go_at_call 81
   refine (part_any 5 (some ⟨w2.heap.size,0,none⟩) 2 2 s x l2 mb WB hmkB (by have:=HM.out.2;have:=HL1.out.2;have:=HBB.out.2.2.2;omega)).mono ?_
   rintro e w3 ⟨hm2,⟨hp,rfl,hmk2⟩ | ⟨hp,rfl,hmk2⟩⟩
   rotate_left
   ·refine ⟨rfl,(HFN.out _ ((HP.out.1.trans ((Chalk.Mod.of_below (S:=fun k=>k=mb) HBB.out.1).trans hm2 (fun _ _ h=>h)) (fun _ _ h=>h)).mono (fun _ h=>.inl h))).1,.inr ⟨?_,rfl,_,hmk2⟩⟩
    have h1:=HL1.out
    rw [HTE.out] at h1
    simp only [sizes] at h1
    simp only [Tr.size_mk,sizes]
    have h2:=HBB.out.2.2.2
    have h3:=HP.out.2.1
    omega
   have hmt:=HP.out.1.trans ((Chalk.Mod.of_below (S:=fun k=>k=mb) HBB.out.1).trans hm2 (fun _ _ h=>h)) (fun _ _ h=>h)
   have hmwr:=hmk1.lt
   have q3:=heap_kept HQ1.out.2 hmt (by omega)
   have hlw3:w.heap.size+1<w3.heap.size:=(gS q3).1
   have HP3:=Lh (aI hmt (aI hp (aI hmk2 (aI (heap_kept ((HBB.out.1.block _ (by have:=HP.out.2.2.2.2;omega)).trans HP.out.2.2.2.1) hm2 (by omega)) (aI (heap_kept HBB.out.2.1 hm2 (by have:=HP.out.2.2.2.2;omega)) (show w2.heap.size+1<=w3.heap.size by have:=hm2.size;have:=HBB.out.2.2.1;omega))))))
   have x0:w3.cell? ⟨w.heap.size+1,0,none⟩=some (.int .i64 0):=cH q3 rfl
   have f0:w3.frozen? ⟨w.heap.size+1,0,none⟩=false:=fH q3
   have x1:w3.cell? ⟨w.heap.size+1,1,none⟩=some (.int .i64 0):=cH q3 rfl
   have f1:w3.frozen? ⟨w.heap.size+1,1,none⟩=false:=fH q3
   have x2:w3.cell? ⟨w.heap.size+1,2,none⟩=some (.int .i64 0):=cH q3 rfl
   have f2:w3.frozen? ⟨w.heap.size+1,2,none⟩=false:=fH q3
   have x3:w3.cell? ⟨w.heap.size+1,3,none⟩=some (.slice none 0 0):=cH q3 rfl
   have f3:w3.frozen? ⟨w.heap.size+1,3,none⟩=false:=fH q3
   have HQ3:=Lh q3
   clear hm2 hp hmk2 q3
   go_simp
   refine hK.out _ _ ?_ (fun hHeld2=>?_)
   ·exact HKS.out _ hmt
   clear hK K hHeld
   have hHeld:=hHeld2
   clear hHeld2
   try simp only [Act.put,ub1,ub2,ub3]
   clear hmt
   refine ready_U (rs:=[12]) (by kernel_rfl) (by simp) ?_
   refine cons_V rfl (by kernel_rfl) (fun K hK=>?_) nil_U
   go_simp
   refine hK.out _ _ ?_
   clear hK K
   try simp only [Act.put,ub1,ub2,ub3]
   refine done_U (by kernel_rfl) ?_ _
   clear hHeld hmk1 hmkA hmkB
   go_wp2_with fail
   have hq3:=put4_heap HQ3.out (.int .i64 5) (.int .i64 0) (.int .i64 0) (.slice (some ⟨w2.heap.size,0,none⟩) 2 2)
   have hm3:=put4_mod w3 (w.heap.size+1) 0 (.int .i64 5) (.int .i64 0) (.int .i64 0) (.slice (some ⟨w2.heap.size,0,none⟩) 2 2)
   unfold put4 at hq3 hm3
   simp only [Nat.zero_add] at hq3 hm3
   generalize (((w3.setCell _ _).setCell _ _).setCell _ _).setCell _ _=W3 at hq3 hm3 ⊢
   have HY:=Lh (aI hq3 hm3)
   have y0:W3.cell? ⟨w.heap.size+1,0,none⟩=some (.int .i64 5):=cH hq3 rfl
   have y1:W3.cell? ⟨w.heap.size+1,1,none⟩=some (.int .i64 0):=cH hq3 rfl
   have y2:W3.cell? ⟨w.heap.size+1,2,none⟩=some (.int .i64 0):=cH hq3 rfl
   have y3:W3.cell? ⟨w.heap.size+1,3,none⟩=some (.slice (some ⟨w2.heap.size,0,none⟩) 2 2):=cH hq3 rfl
   clear hq3 hm3
   refine bodyPost_ret (v:=.agg #[.int .i64 5,.int .i64 0,.int .i64 0,.slice (some ⟨w2.heap.size,0,none⟩) 2 2]) (by simp [results,Tryz.results38,go_sem,y0,y1,y2,y3]) rfl ?_
   have hmW:Chalk.Mod (fun k=>k=mb∨k=w.heap.size+1∨wr.heap.size<=k) wr W3:=(HP3.out.1.mono (fun _ h=>.inl h)).trans HY.out.2 (fun _ _ h=>.inr (.inl h))
   have g1:=(HFN.out W3 hmW).1
   have hwz:=HMW.out
   have hz0:=HB.out.2.2.2
   have hzw:=hmW.size
   have hk0:=heap_kept HP3.out.2.2.2.1 HY.out.2 (by omega)
   have hk1:=heap_kept HP3.out.2.2.2.2.1 HY.out.2 (by have:=HP.out.2.2.2.2;omega)
   have hag:∀ k,(W0.heap.size<=k/\k<wr.heap.size)->W3.heap[k]?=wr.heap[k]?:=fun k hk=>hmW.block k hk.2 (by rintro (h | h | h) <;> omega)
   have hd0:DAt W3 (fun k=>w.heap.size<=k/\k<W3.heap.size) t0.toD [.int .i64 k00,.int .i64 k01,.int .i64 k02,.slice ka0 kn0 kc0]:=DAt.mono (fun k hk=>⟨by omega,by omega⟩) _ _ (DAt.agree hag _ _ HD01.out.1)
   have hd1:DAt W3 (fun k=>w.heap.size<=k/\k<W3.heap.size) t1.toD [.int .i64 k10,.int .i64 k11,.int .i64 k12,.slice ka1 kn1 kc1]:=DAt.mono (fun k hk=>⟨by omega,by omega⟩) _ _ (DAt.agree hag _ _ HD01.out.2.1)
   have hs0:SlIn W3 (fun k=>w.heap.size<=k/\k<W3.heap.size) ([t0].map Tr.toD) ⟨some ⟨wr.heap.size,0,none⟩,wr.heap.size,0,1⟩:=SlIn.lit hk0 (DsAt.oneT hd0) ⟨by omega,(gS hk0).1⟩ (by simp) (by unfold maxLen;omega)
   have hn0:=Tr.close (kind:=3) (v:=0) (k:=0) (i64_small (by decide) (by decide)) (i64_small (by decide) (by decide)) (i64_small (by decide) (by decide)) hs0
   have hs1:SlIn W3 (fun k=>w.heap.size<=k/\k<W3.heap.size) ([Tr.mk 3 0 0 [t0],t1].map Tr.toD) ⟨some ⟨w2.heap.size,0,none⟩,w2.heap.size,0,2⟩:=SlIn.lit hk1 (by
    simp only [List.map_cons,List.map_nil]
    rw [DsAt]
    exact ⟨_,_,rfl,hn0,DsAt.oneT hd1⟩) ⟨by have:=HP.out.2.2.2.2;omega,(gS hk1).1⟩ (by simp) (by unfold maxLen;omega)
   have hcl:=Tr.close (kind:=5) (v:=0) (k:=0) (i64_small (by decide) (by decide)) (i64_small (by decide) (by decide)) (i64_small (by decide) (by decide)) hs1
   have hsz:(Tr.mk 5 0 0 [.mk 3 0 0 [t0],t1]).size=2+sizes ts:=by rw [HTE.out];simp only [Tr.size_mk,sizes];omega
   have hq:=HL1.out
   have hp:=HP.out.2.1
   have hp3:=HP3.out.2.1
   have hl2:=HBB.out.2.2.2
   refine ⟨g1,.inl ⟨by omega,⟨_,rfl,hcl⟩,?_⟩⟩
   rw [hsz,show ((left:Int) - ((2+sizes ts:Nat):Int))=(l2:Int) - 1 by push_cast;omega]
   exact HP3.out.2.2.1.kept HY.out.2 (by omega)
end Go.Proofs.YtjjkfgjnadaheaaGreatDoor
