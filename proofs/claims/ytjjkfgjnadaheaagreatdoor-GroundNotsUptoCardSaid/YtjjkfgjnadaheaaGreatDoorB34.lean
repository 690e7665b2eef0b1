/- Joined texts: GTreeC, GTru, GFew, GHelp. -/
import Derived.Test.YtjjkfgjnadaheaaGreatDoorB33
import Derived.Test.YtjjkfgjnadaheaaGreatDoorB28
import Derived.Test.YtjjkfgjnadaheaaGreatDoorB30
import Derived.Test.YtjjkfgjnadaheaaGreatDoorB07
import Derived.Test.YtjjkfgjnadaheaaGreatDoorB13
import Derived.Test.YtjjkfgjnadaheaaGreatDoorB27
import Derived.Deep.QuietTactic
import Derived.Deep.CutRange
set_option maxHeartbeats 8000000
set_option maxRecDepth 100000
set_option linter.unusedVariables false
set_option linter.unusedSimpArgs false
/- ground's maker.tree: a leaf. (written by tools/gen_gtreec.py) -/
namespace Go.Proofs.YtjjkfgjnadaheaaGreatDoor
open Go.RowKit Go.Chalk
attribute [local go_sem] Oper.semAt_some
theorem wkAt_fit (s:Schl) (i j:Int) (hs1:s.lessons.length<=2000000) (hs2:s.slots.length<=2000000) (hs3:s.rooms.length<=2000000):I64 (wkAt s i j):=by
 unfold wkAt
 split
 ·rename_i h
  have:=mul_fit _ _ hs1 hs2 i h.1.1 (by omega)
  exact ⟨by omega,by omega⟩
 ·exact i64_small (by decide) (by decide)
theorem wkIn_fit (s:Schl) (i j:Int) (hs1:s.lessons.length<=2000000) (hs2:s.slots.length<=2000000) (hs3:s.rooms.length<=2000000):I64 (wkIn s i j):=by
 unfold wkIn
 split
 ·rename_i h
  have:=mul_fit _ _ hs1 hs3 i h.1.1 (by omega)
  have:=mul_fit _ _ hs1 hs2 s.lessons.length (by omega) (by omega)
  exact ⟨by omega,by omega⟩
 ·exact i64_small (by decide) (by decide)

theorem gat_any (t u:Trm) (n:Int) (name:Bs) (binds:List Bnd) (l:List Frm) (fa:FrmA) (env:List Ev) (z:SlA) (s:Schl) (x:SchA) (w0 w:World) (mb left:Nat) (hf:SchFit s) (h0:Below w0.heap.size w0 w) (hmb0:w0.heap.size<=mb) (hs:SchIn w0 (·<w0.heap.size) s x) (hx:FrmIn w0 (·<w0.heap.size) (.mk 3 name n [t,u] binds l) fa) (hz:SlIn w (Off mb w) (env.map Ev.toD) z) (hel:env.length<=1500000) (hm:MkB w mb s x left) (hl:left<=65536) :
  Calls Tryz.prog 38 #[.pointer (some ⟨mb,0,none⟩),.slice z.a env.length z.cap,ndV (.mk 3 name n [t,u] binds l,fa)] w (TreeP s x mb left w (.mk 2 (wkAt s (plOf env t.name) (plOf env u.name)) 0 [])):=by
 have hmlt:=hm.lt
 obtain ⟨W0,hW0⟩:∃ W0,W0=(w.alloc (.cells (fa.cells (.mk 3 name n [t,u] binds l)).toArray 34)).alloc (.cells #[.int .i64 0,.int .i64 0,.int .i64 0,.slice none 0 0] 39):=⟨_,rfl⟩
 have hb0:Below w.heap.size w W0:=by rw [hW0];exact ((Below.refl _ _).alloc (Nat.le_refl _) _).alloc (by simp) _
 have hz0:W0.heap.size=w.heap.size+2:=by rw [hW0];simp
 have hq0:FrmBox W0 w.heap.size (.mk 3 name n [t,u] binds l) fa:=by rw [hW0];unfold FrmBox;rw [heap_get,if_neg (by simp),heap_get,if_pos rfl]
 have hq1:W0.heap[w.heap.size+1]?=some (.cells #[.int .i64 0,.int .i64 0,.int .i64 0,.slice none 0 0] 39 (0,0)):=by rw [hW0,heap_get,if_pos (by simp)]
 have hmk0:MkB W0 mb s x left:=(hb0.block mb hmlt).trans hm
 have HB:=Lh (aI hb0 (aI hq0 (aI hq1 hz0)))
 have HW0:=Lh hW0
 have HM:=Lh (aI hm hl)
 have HX:=Lh (aI h0 (aI hmb0 (aI hx (aI hz (aI hf (aI hel hs))))))
 have HPL:=Lh (fun (t:Trm) (W:World) (hz:SlIn W (·<W.heap.size) (env.map Ev.toD) z)=>place_any env z t W hz (by omega))
 have HWK:=Lh (fun (i j:Int) (W:World)=>wat_any s x i j W hf.lessons hf.slots hf.rooms)
 obtain ⟨c0,c1,c2,c3,c4,c5⟩:=hq0.cells
 clear hb0 hq0 hq1 hW0 hm hl hz0 h0 hmb0 hx hz hel hs hf
 simp only [ndV,FrmA.cells,SlA.val,Frm.kind,Frm.name,Frm.n,Frm.terms,Frm.binds,Frm.l,List.length_cons,List.length_nil,Nat.zero_add,Nat.reduceAdd] at HW0 c0 c1 c2 c3 c4 c5 ⊢
 go_enter Tryz.func38,Tryz.ntmps38
 go_wp2_with fail
 rw [<- HW0.out]
 go_wp2_with fail
 refine (part_any 1 none 0 0 s x left mb W0 hmk0 HM.out.2).mono ?_
 rintro e w2 ⟨hm2,⟨hp,rfl,hmk2⟩ | ⟨hp,rfl,hmk2⟩⟩
 rotate_left
 ·refine ⟨rfl,(Chalk.Mod.of_below (S:=fun k=>k=mb) HB.out.1).trans hm2 (fun _ _ h=>h),.inr ⟨?_,rfl,_,hmk2⟩⟩
  simp only [Tr.size_mk,sizes];omega
 clear c0 c1 c2 c3 c4 c5
 have hz2:=hm2.size
 have hz0:=HB.out.2.2.2
 have hz02:w.heap.size+2<=w2.heap.size:=by omega
 obtain ⟨WA,hWA⟩:∃ WA,WA=w2.alloc (.cells #[.int .i64 1,.int .i64 0,.int .i64 0,.slice none 0 0] 39):=⟨_,rfl⟩
 have hbA:Below w2.heap.size w2 WA:=by rw [hWA];exact (Below.refl _ _).alloc (Nat.le_refl _) _
 have hzA:WA.heap.size=w2.heap.size+1:=by rw [hWA];simp
 have hkA:WA.heap[w2.heap.size]?=some (.cells #[.int .i64 1,.int .i64 0,.int .i64 0,.slice none 0 0] 39 (0,0)):=by rw [hWA,heap_get,if_pos rfl]
 have q2:FrmBox w2 w.heap.size (.mk 3 name n [t,u] binds l) fa:=heap_kept HB.out.2.1 hm2 (by omega)
 have qA:FrmBox WA w.heap.size (.mk 3 name n [t,u] binds l) fa:=(hbA.block _ (by omega)).trans q2
 have r2:=heap_kept HB.out.2.2.1 hm2 (by omega)
 have rA:=(hbA.block _ (by omega)).trans r2
 have hmkA:MkB WA mb s x ((left:Int) - 1):=(hbA.block mb (by omega)).trans hmk2
 have hmw:Chalk.Mod (fun k=>k=mb) w WA:=((Chalk.Mod.of_below (S:=fun k=>k=mb) HB.out.1).trans hm2 (fun _ _ h=>h)).trans (Chalk.Mod.of_below (S:=fun k=>k=mb) hbA) (fun _ _ h=>h)
 have hb0A:Below w0.heap.size w0 WA:=HX.out.1.trans (hmw.below HX.out.1.size (fun k hk=>by have:=HX.out.2.1;omega))
 have hzwA:SlIn WA (·<WA.heap.size) (env.map Ev.toD) z:=(HX.out.2.2.2.1.agree (hmw.agree (fun k hk=>hk))).mono (fun k hk=>by have:=hk.1;omega)
 have HA:=Lh (aI hbA (aI hzA (aI hkA (aI qA (aI rA (aI hmkA (aI hmw (aI hb0A (aI hzwA hp)))))))))
 have hWA':w2.alloc (.cells #[.int .i64 1,.int .i64 0,.int .i64 0,.slice none 0 0] 39)=WA:=hWA.symm
 obtain ⟨c0,c1,c2,c3,c4,c5⟩:=q2.cells
 simp only [Frm.kind,Frm.terms] at c0 c3
 clear c1 c2 c4 c5 hbA hzA hkA q2 qA r2 rA hmkA hmw hb0A hzwA hp hm2 hmk2 hz2 hmk0 hWA
 have hwlt:w.heap.size<w2.heap.size:=by omega
 have HWA:=Lh hWA'
 clear hWA'
 go_wp2_with fail
 rw [HWA.out]
 obtain ⟨q1,_,_,q4,q5⟩:=HX.out.2.2.1.terms.flat Trm.flatT
 simp only [Frm.terms] at q1 q4 q5
 obtain ⟨hta,htb⟩:=q1 (by simp)
 obtain ⟨t0,t1,t2⟩:=q4.three 0 (by simp) rfl
 obtain ⟨u0,u1,u2⟩:=q4.three 1 (by simp) rfl
 simp only [List.getElem_cons_zero,List.getElem_cons_succ,Nat.zero_mul,Nat.add_zero,Nat.one_mul] at t0 t1 t2 u0 u1 u2
 have HKS:Hid (∀ w',Chalk.Mod (fun k=>k=w2.heap.size) WA w'->w'.cell? ⟨mb,0,none⟩=some (.slice x.slots.a s.slots.length x.slots.cap)/\w'.cell? ⟨mb,1,none⟩=some (.slice x.rooms.a s.rooms.length x.rooms.cap)/\w'.cell? ⟨mb,2,none⟩=some (.slice x.people.a s.people.length x.people.cap)/\w'.cell? ⟨mb,3,none⟩=some (.slice x.groups.a s.groups.length x.groups.cap)/\w'.cell? ⟨mb,4,none⟩=some (.slice x.lessons.a s.lessons.length x.lessons.cap)/\w'.cell? ⟨w.heap.size,3,none⟩=some (.slice (some ⟨fa.t.b,fa.t.o,none⟩) 2 fa.t.cap)/\w'.cell? ⟨fa.t.b,fa.t.o,none⟩=some (.int .i64 t.kind)/\w'.cell? ⟨fa.t.b,fa.t.o+1,none⟩=some (.string ⟨t.name.toArray⟩)/\w'.cell? ⟨fa.t.b,fa.t.o+2,none⟩=some (.int .i64 t.n)/\w'.cell? ⟨fa.t.b,fa.t.o+3,none⟩=some (.int .i64 u.kind)/\w'.cell? ⟨fa.t.b,fa.t.o+4,none⟩=some (.string ⟨u.name.toArray⟩)/\w'.cell? ⟨fa.t.b,fa.t.o+5,none⟩=some (.int .i64 u.n)):=Lh (fun w' hW=>by
  obtain ⟨m0,m1,m2,m3,m4,_,_⟩:=MkB.cells (heap_kept HA.out.2.2.2.2.2.1 hW (by omega))
  have g3:=(FrmBox.cells (heap_kept HA.out.2.2.2.1 hW (by omega))).2.2.2.1
  simp only [Frm.terms,SlA.val,hta] at g3
  have hb:=HA.out.2.2.2.2.2.2.2.1.trans (hW.below HA.out.2.2.2.2.2.2.2.1.size (fun k hk=>by have:=HX.out.1.size;omega))
  have hc:∀ j v,w0.cell? ⟨fa.t.b,j,none⟩=some v->w'.cell? ⟨fa.t.b,j,none⟩=some v:=fun j v hv=>(hb.cell (p:=⟨fa.t.b,j,none⟩) htb).trans hv
  exact ⟨m0,m1,m2,m3,m4,g3,hc _ _ t0,hc _ _ t1,hc _ _ t2,hc _ _ u0,hc _ _ u1,hc _ _ u2⟩)
 clear q1 q4 q5 htb t0 t1 t2 u0 u1 u2 hta
 have hWAl:w2.heap.size<WA.heap.size:=by have:=HA.out.2.1;omega
 refine wp_region_U 20 (S:=fun w'=>w'.cell? ⟨mb,0,none⟩=some (.slice x.slots.a s.slots.length x.slots.cap)/\w'.cell? ⟨mb,1,none⟩=some (.slice x.rooms.a s.rooms.length x.rooms.cap)/\w'.cell? ⟨mb,2,none⟩=some (.slice x.people.a s.people.length x.people.cap)/\w'.cell? ⟨mb,3,none⟩=some (.slice x.groups.a s.groups.length x.groups.cap)/\w'.cell? ⟨mb,4,none⟩=some (.slice x.lessons.a s.lessons.length x.lessons.cap)/\w'.cell? ⟨w.heap.size,3,none⟩=some (.slice (some ⟨fa.t.b,fa.t.o,none⟩) 2 fa.t.cap)/\w'.cell? ⟨fa.t.b,fa.t.o,none⟩=some (.int .i64 t.kind)/\w'.cell? ⟨fa.t.b,fa.t.o+1,none⟩=some (.string ⟨t.name.toArray⟩)/\w'.cell? ⟨fa.t.b,fa.t.o+2,none⟩=some (.int .i64 t.n)/\w'.cell? ⟨fa.t.b,fa.t.o+3,none⟩=some (.int .i64 u.kind)/\w'.cell? ⟨fa.t.b,fa.t.o+4,none⟩=some (.string ⟨u.name.toArray⟩)/\w'.cell? ⟨fa.t.b,fa.t.o+5,none⟩=some (.int .i64 u.n)) (by kernel_rfl) (HKS.out _ (Chalk.Mod.refl _ _).drew) (fun hHeld=>?_)
 refine tkU (i:=0) rfl hHeld ?_
 try simp only [Act.put,ub1,ub2,ub3]
 refine tkU (i:=1) rfl hHeld ?_
 try simp only [Act.put,ub1,ub2,ub3]
 refine tkU (i:=2) rfl hHeld ?_
 try simp only [Act.put,ub1,ub2,ub3]
 refine tkU (i:=3) rfl hHeld ?_
 try simp only [Act.put,ub1,ub2,ub3]
 refine tkU (i:=4) rfl hHeld ?_
 try simp only [Act.put,ub1,ub2,ub3]
 refine tkU (i:=5) rfl hHeld ?_
 try simp only [Act.put,ub1,ub2,ub3]
 refine tkU (i:=6) rfl hHeld ?_
 try simp only [Act.put,ub1,ub2,ub3]
 refine tkU (i:=7) rfl hHeld ?_
 try simp only [Act.put,ub1,ub2,ub3]
 refine tkU (i:=8) rfl hHeld ?_
 try simp only [Act.put,ub1,ub2,ub3]
 refine tkU (i:=10) rfl hHeld ?_
 try simp only [Act.put,ub1,ub2,ub3]
 refine tkU (i:=11) rfl hHeld ?_
 try simp only [Act.put,ub1,ub2,ub3]
 refine tkU (i:=12) rfl hHeld ?_
 try simp only [Act.put,ub1,ub2,ub3]
 refine tkU (i:=13) rfl hHeld ?_
 try simp only [Act.put,ub1,ub2,ub3]
 refine tkU (i:=14) rfl hHeld ?_
 try simp only [Act.put,ub1,ub2,ub3]
 refine tkU (i:=17) rfl hHeld ?_
 try simp only [Act.put,ub1,ub2,ub3]
 refine ready_U (rs:=[9]) (by kernel_rfl) (by simp) ?_
 refine cons_U rfl (fun K hK=>?_) nil_U
 go_simp
 go_at_call 82
 refine (HPL.out t WA.drew (HA.out.2.2.2.2.2.2.2.2.1.later (Below.refl _ _).drew (Nat.le_refl _))).mono ?_
 rintro e w3 ⟨rfl,hb⟩
 have Hw3:=Lh (Below.trans (Below.refl WA.heap.size WA).drew (hb.mono (Nat.le_refl _)))
 clear hb
 go_simp
 refine hK.out _ _ ?_ (fun hHeld2=>?_)
 ·exact HKS.out _ (Chalk.Mod.of_below Hw3.out)
 clear hK K hHeld
 have hHeld:=hHeld2
 clear hHeld2
 try simp only [Act.put,ub1,ub2,ub3]
 refine ready_U (rs:=[15]) (by kernel_rfl) (by simp) ?_
 refine cons_U rfl (fun K hK=>?_) nil_U
 go_simp
 go_at_call 82
 refine (HPL.out u w3 (HA.out.2.2.2.2.2.2.2.2.1.later Hw3.out Hw3.out.size)).mono ?_
 rintro e w4 ⟨rfl,hb⟩
 have Hw4:=Lh (Hw3.out.trans (hb.mono Hw3.out.size))
 clear hb
 go_simp
 refine hK.out _ _ ?_ (fun hHeld2=>?_)
 ·exact HKS.out _ (Chalk.Mod.of_below Hw4.out)
 clear hK K hHeld
 have hHeld:=hHeld2
 clear hHeld2
 try simp only [Act.put,ub1,ub2,ub3]
 refine ready_U (rs:=[16]) (by kernel_rfl) (by simp) ?_
 refine cons_U rfl (fun K hK=>?_) nil_U
 go_simp
 go_at_call 44
 refine (HWK.out _ _ w4).mono ?_
 rintro e w5 ⟨rfl,hb⟩
 have Hw5:=Lh (Hw4.out.trans (hb.mono Hw4.out.size))
 clear hb
 have k5:=(Hw5.out.block w2.heap.size hWAl).trans HA.out.2.2.1
 have x0:w5.cell? ⟨w2.heap.size,0,none⟩=some (.int .i64 1):=cH k5 rfl
 have x1:w5.cell? ⟨w2.heap.size,1,none⟩=some (.int .i64 0):=cH k5 rfl
 have x2:w5.cell? ⟨w2.heap.size,2,none⟩=some (.int .i64 0):=cH k5 rfl
 have x3:w5.cell? ⟨w2.heap.size,3,none⟩=some (.slice none 0 0):=cH k5 rfl
 have f0:w5.frozen? ⟨w2.heap.size,0,none⟩=false:=fH k5
 have f1:w5.frozen? ⟨w2.heap.size,1,none⟩=false:=fH k5
 have f2:w5.frozen? ⟨w2.heap.size,2,none⟩=false:=fH k5
 have f3:w5.frozen? ⟨w2.heap.size,3,none⟩=false:=fH k5
 have HK5:=Lh k5
 have hl5:=(gS k5).1
 clear k5
 go_simp
 refine hK.out _ _ ?_ (fun hHeld2=>?_)
 ·exact HKS.out _ (Chalk.Mod.of_below Hw5.out)
 clear hK K hHeld
 have hHeld:=hHeld2
 clear hHeld2
 try simp only [Act.put,ub1,ub2,ub3]
 refine ready_U (rs:=[18]) (by kernel_rfl) (by simp) ?_
 refine cons_U rfl (fun K hK=>?_) nil_U
 go_simp
 refine hK.out _ _ ?_ (fun hHeld2=>?_)
 ·exact HKS.out _ ((Chalk.Mod.of_below (S:=fun k=>k=w2.heap.size) Hw5.out).setCell (p:=⟨w2.heap.size,0,none⟩) (fun _=>rfl) _)
 clear hK K hHeld
 have hHeld:=hHeld2
 clear hHeld2
 try simp only [Act.put,ub1,ub2,ub3]
 refine tkU (i:=19) rfl hHeld ?_
 try simp only [Act.put,ub1,ub2,ub3]
 refine ready_U (rs:=[20]) (by kernel_rfl) (by simp) ?_
 refine cons_V rfl (by kernel_rfl) (fun K hK=>?_) nil_U
 go_simp
 refine hK.out _ _ ?_
 clear hK K
 try simp only [Act.put,ub1,ub2,ub3]
 refine done_U (by kernel_rfl) ?_ _
 clear hHeld
 have hwk:I64 (wkAt s (plOf env t.name) (plOf env u.name)):=wkAt_fit s _ _ HX.out.2.2.2.2.1.lessons HX.out.2.2.2.2.1.slots HX.out.2.2.2.2.1.rooms
 have HWF:=Lh hwk
 clear hwk
 generalize hgw:wkAt s (plOf env t.name) (plOf env u.name)=wk at HWF ⊢
 have HGW:=Lh hgw
 clear hgw
 have k6:=box_store (i:=1) (.int .i64 wk) (box_store (i:=0) (.int .i64 2) HK5.out)
 have hm6:Chalk.Mod (fun k=>k=w2.heap.size) WA ((w5.setCell ⟨w2.heap.size,0,none⟩ (.int .i64 2)).setCell ⟨w2.heap.size,1,none⟩ (.int .i64 wk)):=((Chalk.Mod.of_below (S:=fun k=>k=w2.heap.size) Hw5.out).setCell (p:=⟨w2.heap.size,0,none⟩) (fun _=>rfl) _).setCell (p:=⟨w2.heap.size,1,none⟩) (fun _=>rfl) _
 generalize (w5.setCell ⟨w2.heap.size,0,none⟩ (.int .i64 2)).setCell ⟨w2.heap.size,1,none⟩ (.int .i64 wk)=w6 at k6 hm6 ⊢
 have q6:=heap_kept HA.out.2.2.2.2.1 hm6 (by omega)
 clear x0 x1 x2 x3 f0 f1 f2 f3 hl5
 have v0:w6.cell? ⟨w2.heap.size,0,none⟩=some (.int .i64 2):=cH k6 rfl
 have v1:w6.cell? ⟨w2.heap.size,1,none⟩=some (.int .i64 wk):=cH k6 rfl
 have v2:w6.cell? ⟨w2.heap.size,2,none⟩=some (.int .i64 0):=cH k6 rfl
 have v3:w6.cell? ⟨w2.heap.size,3,none⟩=some (.slice none 0 0):=cH k6 rfl
 have HM6:=Lh (aI hm6 k6)
 have HQ6:=Lh q6
 have hlw6:w.heap.size+1<w6.heap.size:=(gS q6).1
 clear hm6 k6
 have x0:w6.cell? ⟨w.heap.size+1,0,none⟩=some (.int .i64 0):=cH q6 rfl
 have f0:w6.frozen? ⟨w.heap.size+1,0,none⟩=false:=fH q6
 have x1:w6.cell? ⟨w.heap.size+1,1,none⟩=some (.int .i64 0):=cH q6 rfl
 have f1:w6.frozen? ⟨w.heap.size+1,1,none⟩=false:=fH q6
 have x2:w6.cell? ⟨w.heap.size+1,2,none⟩=some (.int .i64 0):=cH q6 rfl
 have f2:w6.frozen? ⟨w.heap.size+1,2,none⟩=false:=fH q6
 have x3:w6.cell? ⟨w.heap.size+1,3,none⟩=some (.slice none 0 0):=cH q6 rfl
 have f3:w6.frozen? ⟨w.heap.size+1,3,none⟩=false:=fH q6
 clear q6
 go_wp2_with fail
 have hq3:=put4_heap HQ6.out (.int .i64 2) (.int .i64 wk) (.int .i64 0) (.slice none 0 0)
 have hm3:=put4_mod w6 (w.heap.size+1) 0 (.int .i64 2) (.int .i64 wk) (.int .i64 0) (.slice none 0 0)
 unfold put4 at hq3 hm3
 simp only [Nat.zero_add] at hq3 hm3
 generalize (((w6.setCell _ _).setCell _ _).setCell _ _).setCell _ _=W3 at hq3 hm3 ⊢
 have HY:=Lh (aI hq3 hm3)
 have y0:W3.cell? ⟨w.heap.size+1,0,none⟩=some (.int .i64 2):=cH hq3 rfl
 have y1:W3.cell? ⟨w.heap.size+1,1,none⟩=some (.int .i64 wk):=cH hq3 rfl
 have y2:W3.cell? ⟨w.heap.size+1,2,none⟩=some (.int .i64 0):=cH hq3 rfl
 have y3:W3.cell? ⟨w.heap.size+1,3,none⟩=some (.slice none 0 0):=cH hq3 rfl
 clear hq3 hm3
 refine bodyPost_ret (v:=.agg #[.int .i64 2,.int .i64 wk,.int .i64 0,.slice none 0 0]) (by simp [results,Tryz.results38,go_sem,y0,y1,y2,y3]) rfl ?_
 have hmW:Chalk.Mod (fun k=>k=mb) w W3:=HA.out.2.2.2.2.2.2.1.trans (((HM6.out.1.mono (T:=fun k=>k=w2.heap.size∨k=w.heap.size+1) (fun _ h=>.inl h)).trans HY.out.2 (fun _ _ h=>.inr h))) (fun k hk h=>by omega)
 have hp:=HA.out.2.2.2.2.2.2.2.2.2
 have hcl:DAt W3 (fun k=>w.heap.size<=k/\k<W3.heap.size) (Tr.mk 2 wk 0 []).toD [.int .i64 2,.int .i64 wk,.int .i64 0,.slice none 0 0]:=Tr.close (u:=⟨none,0,0,0⟩) (i64_small (by decide) (by decide)) HWF.out (i64_small (by decide) (by decide)) (SlIn.nil (Nat.zero_le _) _ _ _)
 have hsz:(Tr.mk 2 wk 0 []).size=1:=by simp only [Tr.size_mk,sizes]
 rw [HGW.out]
 refine ⟨hmW,.inl ⟨by omega,⟨_,rfl,hcl⟩,?_⟩⟩
 rw [hsz]
 exact (HA.out.2.2.2.2.2.1.kept HM6.out.1 (by omega)).kept HY.out.2 (by omega)

theorem gin_any (t u:Trm) (n:Int) (name:Bs) (binds:List Bnd) (l:List Frm) (fa:FrmA) (env:List Ev) (z:SlA) (s:Schl) (x:SchA) (w0 w:World) (mb left:Nat) (hf:SchFit s) (h0:Below w0.heap.size w0 w) (hmb0:w0.heap.size<=mb) (hs:SchIn w0 (·<w0.heap.size) s x) (hx:FrmIn w0 (·<w0.heap.size) (.mk 4 name n [t,u] binds l) fa) (hz:SlIn w (Off mb w) (env.map Ev.toD) z) (hel:env.length<=1500000) (hm:MkB w mb s x left) (hl:left<=65536) :
  Calls Tryz.prog 38 #[.pointer (some ⟨mb,0,none⟩),.slice z.a env.length z.cap,ndV (.mk 4 name n [t,u] binds l,fa)] w (TreeP s x mb left w (.mk 2 (wkIn s (plOf env t.name) (plOf env u.name)) 0 [])):=by
 have hmlt:=hm.lt
 obtain ⟨W0,hW0⟩:∃ W0,W0=(w.alloc (.cells (fa.cells (.mk 4 name n [t,u] binds l)).toArray 34)).alloc (.cells #[.int .i64 0,.int .i64 0,.int .i64 0,.slice none 0 0] 39):=⟨_,rfl⟩
 have hb0:Below w.heap.size w W0:=by rw [hW0];exact ((Below.refl _ _).alloc (Nat.le_refl _) _).alloc (by simp) _
 have hz0:W0.heap.size=w.heap.size+2:=by rw [hW0];simp
 have hq0:FrmBox W0 w.heap.size (.mk 4 name n [t,u] binds l) fa:=by rw [hW0];unfold FrmBox;rw [heap_get,if_neg (by simp),heap_get,if_pos rfl]
 have hq1:W0.heap[w.heap.size+1]?=some (.cells #[.int .i64 0,.int .i64 0,.int .i64 0,.slice none 0 0] 39 (0,0)):=by rw [hW0,heap_get,if_pos (by simp)]
 have hmk0:MkB W0 mb s x left:=(hb0.block mb hmlt).trans hm
 have HB:=Lh (aI hb0 (aI hq0 (aI hq1 hz0)))
 have HW0:=Lh hW0
 have HM:=Lh (aI hm hl)
 have HX:=Lh (aI h0 (aI hmb0 (aI hx (aI hz (aI hf (aI hel hs))))))
 have HPL:=Lh (fun (t:Trm) (W:World) (hz:SlIn W (·<W.heap.size) (env.map Ev.toD) z)=>place_any env z t W hz (by omega))
 have HWK:=Lh (fun (i j:Int) (W:World)=>win_any s x i j W hf.lessons hf.slots hf.rooms)
 obtain ⟨c0,c1,c2,c3,c4,c5⟩:=hq0.cells
 clear hb0 hq0 hq1 hW0 hm hl hz0 h0 hmb0 hx hz hel hs hf
 simp only [ndV,FrmA.cells,SlA.val,Frm.kind,Frm.name,Frm.n,Frm.terms,Frm.binds,Frm.l,List.length_cons,List.length_nil,Nat.zero_add,Nat.reduceAdd] at HW0 c0 c1 c2 c3 c4 c5 ⊢
 go_enter Tryz.func38,Tryz.ntmps38
 go_wp2_with fail
 rw [<- HW0.out]
 go_wp2_with fail
 refine (part_any 1 none 0 0 s x left mb W0 hmk0 HM.out.2).mono ?_
 rintro e w2 ⟨hm2,⟨hp,rfl,hmk2⟩ | ⟨hp,rfl,hmk2⟩⟩
 rotate_left
 ·refine ⟨rfl,(Chalk.Mod.of_below (S:=fun k=>k=mb) HB.out.1).trans hm2 (fun _ _ h=>h),.inr ⟨?_,rfl,_,hmk2⟩⟩
  simp only [Tr.size_mk,sizes];omega
 clear c0 c1 c2 c3 c4 c5
 have hz2:=hm2.size
 have hz0:=HB.out.2.2.2
 have hz02:w.heap.size+2<=w2.heap.size:=by omega
 obtain ⟨WA,hWA⟩:∃ WA,WA=w2.alloc (.cells #[.int .i64 1,.int .i64 0,.int .i64 0,.slice none 0 0] 39):=⟨_,rfl⟩
 have hbA:Below w2.heap.size w2 WA:=by rw [hWA];exact (Below.refl _ _).alloc (Nat.le_refl _) _
 have hzA:WA.heap.size=w2.heap.size+1:=by rw [hWA];simp
 have hkA:WA.heap[w2.heap.size]?=some (.cells #[.int .i64 1,.int .i64 0,.int .i64 0,.slice none 0 0] 39 (0,0)):=by rw [hWA,heap_get,if_pos rfl]
 have q2:FrmBox w2 w.heap.size (.mk 4 name n [t,u] binds l) fa:=heap_kept HB.out.2.1 hm2 (by omega)
 have qA:FrmBox WA w.heap.size (.mk 4 name n [t,u] binds l) fa:=(hbA.block _ (by omega)).trans q2
 have r2:=heap_kept HB.out.2.2.1 hm2 (by omega)
 have rA:=(hbA.block _ (by omega)).trans r2
 have hmkA:MkB WA mb s x ((left:Int) - 1):=(hbA.block mb (by omega)).trans hmk2
 have hmw:Chalk.Mod (fun k=>k=mb) w WA:=((Chalk.Mod.of_below (S:=fun k=>k=mb) HB.out.1).trans hm2 (fun _ _ h=>h)).trans (Chalk.Mod.of_below (S:=fun k=>k=mb) hbA) (fun _ _ h=>h)
 have hb0A:Below w0.heap.size w0 WA:=HX.out.1.trans (hmw.below HX.out.1.size (fun k hk=>by have:=HX.out.2.1;omega))
 have hzwA:SlIn WA (·<WA.heap.size) (env.map Ev.toD) z:=(HX.out.2.2.2.1.agree (hmw.agree (fun k hk=>hk))).mono (fun k hk=>by have:=hk.1;omega)
 have HA:=Lh (aI hbA (aI hzA (aI hkA (aI qA (aI rA (aI hmkA (aI hmw (aI hb0A (aI hzwA hp)))))))))
 have hWA':w2.alloc (.cells #[.int .i64 1,.int .i64 0,.int .i64 0,.slice none 0 0] 39)=WA:=hWA.symm
 obtain ⟨c0,c1,c2,c3,c4,c5⟩:=q2.cells
 simp only [Frm.kind,Frm.terms] at c0 c3
 clear c1 c2 c4 c5 hbA hzA hkA q2 qA r2 rA hmkA hmw hb0A hzwA hp hm2 hmk2 hz2 hmk0 hWA
 have hwlt:w.heap.size<w2.heap.size:=by omega
 have HWA:=Lh hWA'
 clear hWA'
 go_wp2_with fail
 rw [HWA.out]
 obtain ⟨q1,_,_,q4,q5⟩:=HX.out.2.2.1.terms.flat Trm.flatT
 simp only [Frm.terms] at q1 q4 q5
 obtain ⟨hta,htb⟩:=q1 (by simp)
 obtain ⟨t0,t1,t2⟩:=q4.three 0 (by simp) rfl
 obtain ⟨u0,u1,u2⟩:=q4.three 1 (by simp) rfl
 simp only [List.getElem_cons_zero,List.getElem_cons_succ,Nat.zero_mul,Nat.add_zero,Nat.one_mul] at t0 t1 t2 u0 u1 u2
 have HKS:Hid (∀ w',Chalk.Mod (fun k=>k=w2.heap.size) WA w'->w'.cell? ⟨mb,0,none⟩=some (.slice x.slots.a s.slots.length x.slots.cap)/\w'.cell? ⟨mb,1,none⟩=some (.slice x.rooms.a s.rooms.length x.rooms.cap)/\w'.cell? ⟨mb,2,none⟩=some (.slice x.people.a s.people.length x.people.cap)/\w'.cell? ⟨mb,3,none⟩=some (.slice x.groups.a s.groups.length x.groups.cap)/\w'.cell? ⟨mb,4,none⟩=some (.slice x.lessons.a s.lessons.length x.lessons.cap)/\w'.cell? ⟨w.heap.size,3,none⟩=some (.slice (some ⟨fa.t.b,fa.t.o,none⟩) 2 fa.t.cap)/\w'.cell? ⟨fa.t.b,fa.t.o,none⟩=some (.int .i64 t.kind)/\w'.cell? ⟨fa.t.b,fa.t.o+1,none⟩=some (.string ⟨t.name.toArray⟩)/\w'.cell? ⟨fa.t.b,fa.t.o+2,none⟩=some (.int .i64 t.n)/\w'.cell? ⟨fa.t.b,fa.t.o+3,none⟩=some (.int .i64 u.kind)/\w'.cell? ⟨fa.t.b,fa.t.o+4,none⟩=some (.string ⟨u.name.toArray⟩)/\w'.cell? ⟨fa.t.b,fa.t.o+5,none⟩=some (.int .i64 u.n)):=Lh (fun w' hW=>by
  obtain ⟨m0,m1,m2,m3,m4,_,_⟩:=MkB.cells (heap_kept HA.out.2.2.2.2.2.1 hW (by omega))
  have g3:=(FrmBox.cells (heap_kept HA.out.2.2.2.1 hW (by omega))).2.2.2.1
  simp only [Frm.terms,SlA.val,hta] at g3
  have hb:=HA.out.2.2.2.2.2.2.2.1.trans (hW.below HA.out.2.2.2.2.2.2.2.1.size (fun k hk=>by have:=HX.out.1.size;omega))
  have hc:∀ j v,w0.cell? ⟨fa.t.b,j,none⟩=some v->w'.cell? ⟨fa.t.b,j,none⟩=some v:=fun j v hv=>(hb.cell (p:=⟨fa.t.b,j,none⟩) htb).trans hv
  exact ⟨m0,m1,m2,m3,m4,g3,hc _ _ t0,hc _ _ t1,hc _ _ t2,hc _ _ u0,hc _ _ u1,hc _ _ u2⟩)
 clear q1 q4 q5 htb t0 t1 t2 u0 u1 u2 hta
 have hWAl:w2.heap.size<WA.heap.size:=by have:=HA.out.2.1;omega
 refine wp_region_U 20 (S:=fun w'=>w'.cell? ⟨mb,0,none⟩=some (.slice x.slots.a s.slots.length x.slots.cap)/\w'.cell? ⟨mb,1,none⟩=some (.slice x.rooms.a s.rooms.length x.rooms.cap)/\w'.cell? ⟨mb,2,none⟩=some (.slice x.people.a s.people.length x.people.cap)/\w'.cell? ⟨mb,3,none⟩=some (.slice x.groups.a s.groups.length x.groups.cap)/\w'.cell? ⟨mb,4,none⟩=some (.slice x.lessons.a s.lessons.length x.lessons.cap)/\w'.cell? ⟨w.heap.size,3,none⟩=some (.slice (some ⟨fa.t.b,fa.t.o,none⟩) 2 fa.t.cap)/\w'.cell? ⟨fa.t.b,fa.t.o,none⟩=some (.int .i64 t.kind)/\w'.cell? ⟨fa.t.b,fa.t.o+1,none⟩=some (.string ⟨t.name.toArray⟩)/\w'.cell? ⟨fa.t.b,fa.t.o+2,none⟩=some (.int .i64 t.n)/\w'.cell? ⟨fa.t.b,fa.t.o+3,none⟩=some (.int .i64 u.kind)/\w'.cell? ⟨fa.t.b,fa.t.o+4,none⟩=some (.string ⟨u.name.toArray⟩)/\w'.cell? ⟨fa.t.b,fa.t.o+5,none⟩=some (.int .i64 u.n)) (by kernel_rfl) (HKS.out _ (Chalk.Mod.refl _ _).drew) (fun hHeld=>?_)
 refine tkU (i:=0) rfl hHeld ?_
 try simp only [Act.put,ub1,ub2,ub3]
 refine tkU (i:=1) rfl hHeld ?_
 try simp only [Act.put,ub1,ub2,ub3]
 refine tkU (i:=2) rfl hHeld ?_
 try simp only [Act.put,ub1,ub2,ub3]
 refine tkU (i:=3) rfl hHeld ?_
 try simp only [Act.put,ub1,ub2,ub3]
 refine tkU (i:=4) rfl hHeld ?_
 try simp only [Act.put,ub1,ub2,ub3]
 refine tkU (i:=5) rfl hHeld ?_
 try simp only [Act.put,ub1,ub2,ub3]
 refine tkU (i:=6) rfl hHeld ?_
 try simp only [Act.put,ub1,ub2,ub3]
 refine tkU (i:=7) rfl hHeld ?_
 try simp only [Act.put,ub1,ub2,ub3]
 refine tkU (i:=8) rfl hHeld ?_
 try simp only [Act.put,ub1,ub2,ub3]
 refine tkU (i:=10) rfl hHeld ?_
 try simp only [Act.put,ub1,ub2,ub3]
 refine tkU (i:=11) rfl hHeld ?_
 try simp only [Act.put,ub1,ub2,ub3]
 refine tkU (i:=12) rfl hHeld ?_
 try simp only [Act.put,ub1,ub2,ub3]
 refine tkU (i:=13) rfl hHeld ?_
 try simp only [Act.put,ub1,ub2,ub3]
 refine tkU (i:=14) rfl hHeld ?_
 try simp only [Act.put,ub1,ub2,ub3]
 refine tkU (i:=17) rfl hHeld ?_
 try simp only [Act.put,ub1,ub2,ub3]
 refine ready_U (rs:=[9]) (by kernel_rfl) (by simp) ?_
 refine cons_U rfl (fun K hK=>?_) nil_U
 go_simp
 go_at_call 82
 refine (HPL.out t WA.drew (HA.out.2.2.2.2.2.2.2.2.1.later (Below.refl _ _).drew (Nat.le_refl _))).mono ?_
 rintro e w3 ⟨rfl,hb⟩
 have Hw3:=Lh (Below.trans (Below.refl WA.heap.size WA).drew (hb.mono (Nat.le_refl _)))
 clear hb
 go_simp
 refine hK.out _ _ ?_ (fun hHeld2=>?_)
 ·exact HKS.out _ (Chalk.Mod.of_below Hw3.out)
 clear hK K hHeld
 have hHeld:=hHeld2
 clear hHeld2
 try simp only [Act.put,ub1,ub2,ub3]
 refine ready_U (rs:=[15]) (by kernel_rfl) (by simp) ?_
 refine cons_U rfl (fun K hK=>?_) nil_U
 go_simp
 go_at_call 82
 refine (HPL.out u w3 (HA.out.2.2.2.2.2.2.2.2.1.later Hw3.out Hw3.out.size)).mono ?_
 rintro e w4 ⟨rfl,hb⟩
 have Hw4:=Lh (Hw3.out.trans (hb.mono Hw3.out.size))
 clear hb
 go_simp
 refine hK.out _ _ ?_ (fun hHeld2=>?_)
 ·exact HKS.out _ (Chalk.Mod.of_below Hw4.out)
 clear hK K hHeld
 have hHeld:=hHeld2
 clear hHeld2
 try simp only [Act.put,ub1,ub2,ub3]
 refine ready_U (rs:=[16]) (by kernel_rfl) (by simp) ?_
 refine cons_U rfl (fun K hK=>?_) nil_U
 go_simp
 go_at_call 46
 refine (HWK.out _ _ w4).mono ?_
 rintro e w5 ⟨rfl,hb⟩
 have Hw5:=Lh (Hw4.out.trans (hb.mono Hw4.out.size))
 clear hb
 have k5:=(Hw5.out.block w2.heap.size hWAl).trans HA.out.2.2.1
 have x0:w5.cell? ⟨w2.heap.size,0,none⟩=some (.int .i64 1):=cH k5 rfl
 have x1:w5.cell? ⟨w2.heap.size,1,none⟩=some (.int .i64 0):=cH k5 rfl
 have x2:w5.cell? ⟨w2.heap.size,2,none⟩=some (.int .i64 0):=cH k5 rfl
 have x3:w5.cell? ⟨w2.heap.size,3,none⟩=some (.slice none 0 0):=cH k5 rfl
 have f0:w5.frozen? ⟨w2.heap.size,0,none⟩=false:=fH k5
 have f1:w5.frozen? ⟨w2.heap.size,1,none⟩=false:=fH k5
 have f2:w5.frozen? ⟨w2.heap.size,2,none⟩=false:=fH k5
 have f3:w5.frozen? ⟨w2.heap.size,3,none⟩=false:=fH k5
 have HK5:=Lh k5
 have hl5:=(gS k5).1
 clear k5
 go_simp
 refine hK.out _ _ ?_ (fun hHeld2=>?_)
 ·exact HKS.out _ (Chalk.Mod.of_below Hw5.out)
 clear hK K hHeld
 have hHeld:=hHeld2
 clear hHeld2
 try simp only [Act.put,ub1,ub2,ub3]
 refine ready_U (rs:=[18]) (by kernel_rfl) (by simp) ?_
 refine cons_U rfl (fun K hK=>?_) nil_U
 go_simp
 refine hK.out _ _ ?_ (fun hHeld2=>?_)
 ·exact HKS.out _ ((Chalk.Mod.of_below (S:=fun k=>k=w2.heap.size) Hw5.out).setCell (p:=⟨w2.heap.size,0,none⟩) (fun _=>rfl) _)
 clear hK K hHeld
 have hHeld:=hHeld2
 clear hHeld2
 try simp only [Act.put,ub1,ub2,ub3]
 refine tkU (i:=19) rfl hHeld ?_
 try simp only [Act.put,ub1,ub2,ub3]
 refine ready_U (rs:=[20]) (by kernel_rfl) (by simp) ?_
 refine cons_V rfl (by kernel_rfl) (fun K hK=>?_) nil_U
 go_simp
 refine hK.out _ _ ?_
 clear hK K
 try simp only [Act.put,ub1,ub2,ub3]
 refine done_U (by kernel_rfl) ?_ _
 clear hHeld
 have hwk:I64 (wkIn s (plOf env t.name) (plOf env u.name)):=wkIn_fit s _ _ HX.out.2.2.2.2.1.lessons HX.out.2.2.2.2.1.slots HX.out.2.2.2.2.1.rooms
 have HWF:=Lh hwk
 clear hwk
 generalize hgw:wkIn s (plOf env t.name) (plOf env u.name)=wk at HWF ⊢
 have HGW:=Lh hgw
 clear hgw
 have k6:=box_store (i:=1) (.int .i64 wk) (box_store (i:=0) (.int .i64 2) HK5.out)
 have hm6:Chalk.Mod (fun k=>k=w2.heap.size) WA ((w5.setCell ⟨w2.heap.size,0,none⟩ (.int .i64 2)).setCell ⟨w2.heap.size,1,none⟩ (.int .i64 wk)):=((Chalk.Mod.of_below (S:=fun k=>k=w2.heap.size) Hw5.out).setCell (p:=⟨w2.heap.size,0,none⟩) (fun _=>rfl) _).setCell (p:=⟨w2.heap.size,1,none⟩) (fun _=>rfl) _
 generalize (w5.setCell ⟨w2.heap.size,0,none⟩ (.int .i64 2)).setCell ⟨w2.heap.size,1,none⟩ (.int .i64 wk)=w6 at k6 hm6 ⊢
 have q6:=heap_kept HA.out.2.2.2.2.1 hm6 (by omega)
 clear x0 x1 x2 x3 f0 f1 f2 f3 hl5
 have v0:w6.cell? ⟨w2.heap.size,0,none⟩=some (.int .i64 2):=cH k6 rfl
 have v1:w6.cell? ⟨w2.heap.size,1,none⟩=some (.int .i64 wk):=cH k6 rfl
 have v2:w6.cell? ⟨w2.heap.size,2,none⟩=some (.int .i64 0):=cH k6 rfl
 have v3:w6.cell? ⟨w2.heap.size,3,none⟩=some (.slice none 0 0):=cH k6 rfl
 have HM6:=Lh (aI hm6 k6)
 have HQ6:=Lh q6
 have hlw6:w.heap.size+1<w6.heap.size:=(gS q6).1
 clear hm6 k6
 have x0:w6.cell? ⟨w.heap.size+1,0,none⟩=some (.int .i64 0):=cH q6 rfl
 have f0:w6.frozen? ⟨w.heap.size+1,0,none⟩=false:=fH q6
 have x1:w6.cell? ⟨w.heap.size+1,1,none⟩=some (.int .i64 0):=cH q6 rfl
 have f1:w6.frozen? ⟨w.heap.size+1,1,none⟩=false:=fH q6
 have x2:w6.cell? ⟨w.heap.size+1,2,none⟩=some (.int .i64 0):=cH q6 rfl
 have f2:w6.frozen? ⟨w.heap.size+1,2,none⟩=false:=fH q6
 have x3:w6.cell? ⟨w.heap.size+1,3,none⟩=some (.slice none 0 0):=cH q6 rfl
 have f3:w6.frozen? ⟨w.heap.size+1,3,none⟩=false:=fH q6
 clear q6
 go_wp2_with fail
 have hq3:=put4_heap HQ6.out (.int .i64 2) (.int .i64 wk) (.int .i64 0) (.slice none 0 0)
 have hm3:=put4_mod w6 (w.heap.size+1) 0 (.int .i64 2) (.int .i64 wk) (.int .i64 0) (.slice none 0 0)
 unfold put4 at hq3 hm3
 simp only [Nat.zero_add] at hq3 hm3
 generalize (((w6.setCell _ _).setCell _ _).setCell _ _).setCell _ _=W3 at hq3 hm3 ⊢
 have HY:=Lh (aI hq3 hm3)
 have y0:W3.cell? ⟨w.heap.size+1,0,none⟩=some (.int .i64 2):=cH hq3 rfl
 have y1:W3.cell? ⟨w.heap.size+1,1,none⟩=some (.int .i64 wk):=cH hq3 rfl
 have y2:W3.cell? ⟨w.heap.size+1,2,none⟩=some (.int .i64 0):=cH hq3 rfl
 have y3:W3.cell? ⟨w.heap.size+1,3,none⟩=some (.slice none 0 0):=cH hq3 rfl
 clear hq3 hm3
 refine bodyPost_ret (v:=.agg #[.int .i64 2,.int .i64 wk,.int .i64 0,.slice none 0 0]) (by simp [results,Tryz.results38,go_sem,y0,y1,y2,y3]) rfl ?_
 have hmW:Chalk.Mod (fun k=>k=mb) w W3:=HA.out.2.2.2.2.2.2.1.trans (((HM6.out.1.mono (T:=fun k=>k=w2.heap.size∨k=w.heap.size+1) (fun _ h=>.inl h)).trans HY.out.2 (fun _ _ h=>.inr h))) (fun k hk h=>by omega)
 have hp:=HA.out.2.2.2.2.2.2.2.2.2
 have hcl:DAt W3 (fun k=>w.heap.size<=k/\k<W3.heap.size) (Tr.mk 2 wk 0 []).toD [.int .i64 2,.int .i64 wk,.int .i64 0,.slice none 0 0]:=Tr.close (u:=⟨none,0,0,0⟩) (i64_small (by decide) (by decide)) HWF.out (i64_small (by decide) (by decide)) (SlIn.nil (Nat.zero_le _) _ _ _)
 have hsz:(Tr.mk 2 wk 0 []).size=1:=by simp only [Tr.size_mk,sizes]
 rw [HGW.out]
 refine ⟨hmW,.inl ⟨by omega,⟨_,rfl,hcl⟩,?_⟩⟩
 rw [hsz]
 exact (HA.out.2.2.2.2.2.1.kept HM6.out.1 (by omega)).kept HY.out.2 (by omega)
end Go.Proofs.YtjjkfgjnadaheaaGreatDoor
/- week.Vars, week.True. (written by tools/gen_gtru.py) -/
namespace Go.Chalk
open Go.RowKit
theorem sch_small {s:Schl} (h:schCheck s=0):s.slots.length<=50/\s.rooms.length<=32/\s.lessons.length<=64:=by
 unfold schCheck at h
 repeat' split at h
 all_goals first | omega | (exfalso;omega)
theorem vars_small {s:Schl} (h:schCheck s=0):wkVars s<=5248:=by
 obtain ⟨h1,h2,h3⟩:=sch_small h
 unfold wkVars
 exact Nat.le_trans (Nat.mul_le_mul h3 (show s.slots.length+s.rooms.length<=82 by omega)) (by decide)
theorem bools_set (a:List Bool) (i:Nat):(a.map Value.bool).toArray.setIfInBounds i (.bool true)=((a.set i true).map Value.bool).toArray:=by simp
end Go.Chalk
namespace Go.Proofs.YtjjkfgjnadaheaaGreatDoor
open Go.RowKit Go.Chalk
attribute [local go_sem] Oper.semAt_some
theorem infoBool:(Tryz.prog.info? 4).map (fun i=>(i.zero,i.size,i.bytes))=some (some (.bool false),1,1):=by kernel_rfl
theorem make_bools (n:Nat) (hn:n<=2000000) (W:World):(Instr.makeSlice 51 (.int .i64 (n:Int)) (.int .i64 (n:Int))).run Tryz.prog W=.ok (.slice (some ⟨W.heap.size,0,none⟩) n n) (W.alloc (.cells ((List.replicate n false).map Value.bool).toArray 4)):=by
 obtain ⟨i0,hi,hz0,hz1,hz2⟩:=info_parts infoBool
 have:=run_makeSlice (P:=Tryz.prog) W 51 4 i0 _ Tryz.underlying51 hi hz0 .i64 .i64 n n (by omega) (Int.le_refl _) (by rw [hz1];omega) (by rw [hz2];omega) (by omega)
 have hm:madeCells (Value.bool false).cells ((n:Int).toNat*1)=((List.replicate n false).map Value.bool).toArray:=by
  apply Array.ext
  ·rw [size_madeCells];simp
  ·intro i h1 h2
   simp [madeCells,Value.cells]
   rw [Nat.mod_one];rfl
 rw [this,hz1,hm,Int.toNat_natCast]
theorem wvars_any (s:Schl) (x:SchA) (w:World) (hsm:SchSmall s):Calls Tryz.prog 23 #[.agg (x.cells s).toArray] w fun e w'=>e=.returned (.int .i64 (wkVars s:Nat))/\Below w.heap.size w w':=by
 have h1:=hsm.lessons
 have h2:=hsm.slots
 have h3:=hsm.rooms
 have hp:(s.lessons.length:Int)*((s.slots.length:Int)+(s.rooms.length:Int))=((wkVars s:Nat):Int):=by unfold wkVars;push_cast;rfl
 have hv:wkVars s<=8000000000000:=by
  unfold wkVars
  exact Nat.le_trans (Nat.mul_le_mul h1 (show s.slots.length+s.rooms.length<=4000000 by omega)) (by decide)
 simp only [SchA.cells,SlA.val]
 go_enter Tryz.func23,Tryz.ntmps23
 go_wp2_with fail
 go_ret
 exact ⟨rfl,(Below.refl _ _).alloc (Nat.le_refl _) _⟩
def TrueP (w:World) (r:List Bool×Int) (e:Ending) (w':World):Prop:=∃ u:SlA,e=.returned (.tuple #[.slice u.a r.1.length u.cap,.int .i64 r.2])/\SlIn w' (fun k=>w.heap.size<=k/\k<w'.heap.size) (dbools r.1) u/\Below w.heap.size w w'
theorem wtrue_any (s:Schl) (x:SchA) (l:List Plc) (y:SlA) (w:World) (hI:ItoaAt) (hf:SchFit s) (hg:GG w) (hs:SchIn w (·<w.heap.size) s x) (hy:SlIn w (·<w.heap.size) (l.map Plc.toD) y) (hl:l.length<=2000000) :
  Calls Tryz.prog 19 #[.agg (x.cells s).toArray,.agg #[.slice y.a l.length y.cap]] w (TrueP w (wkTrueF s l)):=by
 obtain ⟨W0,hW0⟩:∃ W0,W0=(w.alloc (.cells (x.cells s).toArray 28)).alloc (.cells #[.slice y.a l.length y.cap] 50):=⟨_,rfl⟩
 have hb0:Below w.heap.size w W0:=by rw [hW0];exact ((Below.refl _ _).alloc (Nat.le_refl _) _).alloc (by simp) _
 have hq0:SchBox W0 w.heap.size s x:=by rw [hW0];unfold SchBox;rw [heap_get,if_neg (by simp),heap_get,if_pos rfl]
 have hq1:W0.heap[w.heap.size+1]?=some (.cells #[.slice y.a l.length y.cap] 50 (0,0)):=by rw [hW0,heap_get,if_pos (by simp)]
 have HCK:=Lh (wcheck_any s x l y W0 hI (hs.later hb0 hb0.size) hf (hy.later hb0 hb0.size) hl (hg.below hb0))
 have HVA:=Lh (fun W=>wvars_any s x W hf.toSchSmall)
 have HAT:=Lh (fun i j W=>wat_any s x i j W hf.lessons hf.slots hf.rooms)
 have HIN:=Lh (fun i j W=>win_any s x i j W hf.lessons hf.slots hf.rooms)
 obtain ⟨y1,_,_,y4,_⟩:=hy.flat Plc.flatT
 have HY:=Lh (aI y1 y4)
 have HB:=Lh (aI hb0 (aI hq0 hq1))
 have HW0:=Lh hW0.symm
 have HWK:Hid (weekCheck s l=0->l.length=s.lessons.length/\(∀ i,i<l.length->0<=(plcAt l i).slot/\(plcAt l i).slot<s.slots.length/\0<=(plcAt l i).room/\(plcAt l i).room<s.rooms.length)/\wkVars s<=5248):=Lh (fun h=>⟨(week_parts h).1,(week_parts h).2,vars_small (week_school h)⟩)
 have HR:Hid (wkTrueF s l=if weekCheck s l ≠ 0 then ([],weekCheck s l) else (trueK s l l.length,0)):=Lh rfl
 obtain ⟨a0,a1,a2,a3,a4⟩:=hq0.cells
 have b0:W0.cell? ⟨w.heap.size+1,0,none⟩=some (.slice y.a l.length y.cap):=cH hq1 rfl
 clear hb0 hq0 hq1 hW0 hI hf hg hs hy y1 y4
 generalize wkTrueF s l=res at HR ⊢
 generalize weekCheck s l=wc at HCK HWK HR
 simp only [SchA.cells,SlA.val] at HCK HVA HAT HIN HW0 a0 a1 a2 a3 a4 ⊢
 go_enter Tryz.func19,Tryz.ntmps19
 go_wp2_with fail
 rw [HW0.out]
 refine HCK.out.mono ?_
 rintro e w1 ⟨rfl,hb1⟩
 have H1:=Lh (aI (HB.out.1.trans (hb1.mono HB.out.1.size)) (aI (HB.out.2.1.below hb1) ((hb1.block _ (gS HB.out.2.2).1).trans HB.out.2.2)))
 clear hb1 a0 a1 a2 a3 a4 b0
 by_cases h1:wc ≠ 0
 ·have d1:(wc != 0)=true:=by simpa using h1
  have HE:Hid (res=([],wc)):=Lh (by rw [HR.out,if_pos h1])
  clear h1
  go_wp2_with fail
  go_ret2
  rw [HE.out]
  exact ⟨⟨none,0,0,0⟩,rfl,SlIn.nil (Nat.zero_le _) _ _ _,H1.out.1⟩
 obtain rfl:wc=0:=by omega
 have HE:Hid (res=(trueK s l l.length,0)):=Lh (by rw [HR.out,if_neg h1])
 have HWP:=Lh (HWK.out rfl)
 clear h1
 obtain ⟨a0,a1,a2,a3,a4⟩:=H1.out.2.1.cells
 go_wp2_with fail
 refine (HVA.out w1).mono ?_
 rintro e w2 ⟨rfl,hb2⟩
 have hvs:wkVars s<=5248:=HWP.out.2.2
 have hmk:=make_bools (wkVars s+1) (by omega)
 rw [show (((wkVars s+1:Nat):Nat):Int)=((wkVars s:Nat):Int)+1 by push_cast;rfl] at hmk
 have H2:=Lh (aI (H1.out.1.trans (hb2.mono H1.out.1.size)) (aI (H1.out.2.1.below hb2) (aI ((hb2.block _ (gS H1.out.2.2).1).trans H1.out.2.2) (H1.out.1.size))))
 have b2:w2.cell? ⟨w.heap.size+1,0,none⟩=some (.slice y.a l.length y.cap):=cH H2.out.2.2.1 rfl
 have hlw2:=(gS H2.out.2.2.1).1
 clear hb2 a0 a1 a2 a3 a4
 go_wp2_with fail
 have hlen0:=trueK_len s l
 have HLN:=Lh hlen0
 clear hlen0 hmk
 go_loopw [23] (fun i wr=>∃ j:Nat,j<=l.length/\i=.int .i64 j/\Hid (Chalk.Mod (fun k=>k=w2.heap.size) w2 wr/\wr.heap[w2.heap.size]?=some (.cells ((trueK s l j).map Value.bool).toArray 4 (0,0)))) (fun i _=>l.length - (intOf i).toNat)
 case atStart =>
  refine ⟨0,Nat.zero_le _,rfl,Lh ⟨(Chalk.Mod.refl _ _).alloc _,?_⟩⟩
  rw [heap_get,if_pos rfl];simp [trueK]
 case round =>
  clear b2
  obtain ⟨j,hj,rfl,HRR⟩:=hrel
  by_cases hlt:j<l.length
  ·obtain ⟨hya,hyb⟩:=HY.out.1 (by omega)
   obtain ⟨p0,p1⟩:=HY.out.2.two j hlt rfl
   have hpl:l[j]=plcAt l j:=by unfold plcAt;simp [hlt]
   rw [hpl] at p0 p1
   obtain ⟨q1,q2,q3,q4⟩:=HWP.out.2.1 j hlt
   have hll:=HWP.out.1
   have hbr:Below w.heap.size w wr:=H2.out.1.trans (HRR.out.1.below H2.out.1.size (fun k hk=>by have:=H2.out.1.size;omega))
   have g0:=(hbr.cell (p:=⟨y.b,y.o+j*2,none⟩) hyb).trans p0
   have g1:=(hbr.cell (p:=⟨y.b,y.o+j*2+1,none⟩) hyb).trans p1
   obtain ⟨v1,hv1⟩:∃ v1:Nat,wkAt s j (plcAt l j).slot=(v1:Int):=Int.eq_ofNat_of_zero_le (by
    unfold wkAt;rw [if_pos ⟨⟨by omega,by omega⟩,q1,q2⟩]
    have:=Int.mul_nonneg (a:=(j:Int)) (b:=(s.slots.length:Int)) (by omega) (by omega);omega)
   obtain ⟨v2,hv2⟩:∃ v2:Nat,wkIn s j (plcAt l j).room=(v2:Int):=Int.eq_ofNat_of_zero_le (by
    unfold wkIn;rw [if_pos ⟨⟨by omega,by omega⟩,q3,q4⟩]
    have:=Int.mul_nonneg (a:=(j:Int)) (b:=(s.rooms.length:Int)) (by omega) (by omega)
    have:=Int.mul_nonneg (a:=(s.lessons.length:Int)) (b:=(s.slots.length:Int)) (by omega) (by omega);omega)
   have hvb:v1<=wkVars s/\v2<=wkVars s:=by
    have hv:wkVars s=s.lessons.length*s.slots.length+s.lessons.length*s.rooms.length:=by unfold wkVars;rw [Nat.mul_add]
    obtain ⟨sl,hsl⟩:=Int.eq_ofNat_of_zero_le q1
    obtain ⟨rm,hrm⟩:=Int.eq_ofNat_of_zero_le q3
    have b1:=at_lt (S:=s.slots.length) (i:=j) (j:=sl) (n:=s.lessons.length) (by omega) (by omega)
    have b3:=at_lt (S:=s.rooms.length) (i:=j) (j:=rm) (n:=s.lessons.length) (by omega) (by omega)
    have e1:(v1:Int)=((j*s.slots.length+sl+1:Nat):Int):=by
     rw [<- hv1];unfold wkAt;rw [if_pos ⟨⟨by omega,by omega⟩,q1,q2⟩,hsl];push_cast;rfl
    have e2:(v2:Int)=((s.lessons.length*s.slots.length+j*s.rooms.length+rm+1:Nat):Int):=by
     rw [<- hv2];unfold wkIn;rw [if_pos ⟨⟨by omega,by omega⟩,q3,q4⟩,hrm];push_cast;rfl
    omega
   have hv1b:=hvb.1
   have hv2b:=hvb.2
   have HA1:=Lh (fun W=>HAT.out j (plcAt l j).slot W)
   have HI1:=Lh (fun W=>HIN.out j (plcAt l j).room W)
   rw [hv1] at HA1
   rw [hv2] at HI1
   have hts:trueK s l (j+1)=((trueK s l j).set v1 true).set v2 true:=by rw [trueK_succ];unfold setT;rw [hv1,hv2,Int.toNat_natCast,Int.toNat_natCast]
   have HTS:=Lh hts
   have hjm:j<2000000:=by omega
   obtain ⟨ps,hps⟩:∃ ps,(plcAt l j).slot=ps:=⟨_,rfl⟩
   obtain ⟨pr,hpr⟩:∃ pr,(plcAt l j).room=pr:=⟨_,rfl⟩
   rw [hps] at g0 HA1
   rw [hpr] at g1 HI1
   obtain ⟨WA,hWA⟩:∃ WA,WA=wr.alloc (.cells #[.int .i64 ps,.int .i64 pr] 99):=⟨_,rfl⟩
   have hbA:Below wr.heap.size wr WA:=by rw [hWA];exact (Below.refl _ _).alloc (Nat.le_refl _) _
   have hzA:WA.heap.size=wr.heap.size+1:=by rw [hWA];simp
   have hkA:WA.heap[wr.heap.size]?=some (.cells #[.int .i64 ps,.int .i64 pr] 99 (0,0)):=by rw [hWA,heap_get,if_pos rfl]
   have hrz:=HRR.out.1.size
   have hrl:=(gS HRR.out.2).1
   have hqr:SchBox WA w.heap.size s x:=(heap_kept H2.out.2.1 HRR.out.1 (by omega)).trans rfl |> fun h=>(hbA.block _ (gS h).1).trans h
   have haA:=(hbA.block _ hrl).trans HRR.out.2
   have HKS:Hid (∀ w',Chalk.Mod (fun k=>k=w2.heap.size) WA w'->w'.cell? ⟨w.heap.size,0,none⟩=some (.slice x.slots.a s.slots.length x.slots.cap)/\w'.cell? ⟨w.heap.size,1,none⟩=some (.slice x.rooms.a s.rooms.length x.rooms.cap)/\w'.cell? ⟨w.heap.size,2,none⟩=some (.slice x.people.a s.people.length x.people.cap)/\w'.cell? ⟨w.heap.size,3,none⟩=some (.slice x.groups.a s.groups.length x.groups.cap)/\w'.cell? ⟨w.heap.size,4,none⟩=some (.slice x.lessons.a s.lessons.length x.lessons.cap)/\w'.cell? ⟨wr.heap.size,0,none⟩=some (.int .i64 ps)/\w'.cell? ⟨wr.heap.size,1,none⟩=some (.int .i64 pr)):=Lh (fun w' hW=>by
    obtain ⟨m0,m1,m2,m3,m4⟩:=SchBox.cells (heap_kept hqr hW (by omega))
    have k1:=heap_kept hkA hW (by omega)
    exact ⟨m0,m1,m2,m3,m4,cH k1 rfl,cH k1 rfl⟩)
   have HA:=Lh (aI hbA (aI hzA (aI haA (aI hrz hrl))))
   have HWA:=Lh hWA.symm
   have HUA:=Lh hya
   have hybl:y.b<wr.heap.size:=by have:=hbr.size;omega
   rw [hya]
   clear p0 p1 hpl q1 q2 q3 q4 hll hbr hvb hv1 hv2 hts hps hpr hbA hzA hkA hqr haA hWA hya hrz hrl hyb
   go_wp2_with fail
   rw [HWA.out]
   refine wp_region_noPanic ?_
   refine wp_region_U 15 (S:=fun w'=>w'.cell? ⟨w.heap.size,0,none⟩=some (.slice x.slots.a s.slots.length x.slots.cap)/\w'.cell? ⟨w.heap.size,1,none⟩=some (.slice x.rooms.a s.rooms.length x.rooms.cap)/\w'.cell? ⟨w.heap.size,2,none⟩=some (.slice x.people.a s.people.length x.people.cap)/\w'.cell? ⟨w.heap.size,3,none⟩=some (.slice x.groups.a s.groups.length x.groups.cap)/\w'.cell? ⟨w.heap.size,4,none⟩=some (.slice x.lessons.a s.lessons.length x.lessons.cap)/\w'.cell? ⟨wr.heap.size,0,none⟩=some (.int .i64 ps)/\w'.cell? ⟨wr.heap.size,1,none⟩=some (.int .i64 pr)) (by kernel_rfl) (HKS.out _ (Chalk.Mod.refl _ _).drew) (fun hHeld=>?_)
   refine tkU (i:=0) rfl hHeld ?_
   try simp only [Act.put,ub1,ub2,ub3]
   refine tkU (i:=1) rfl hHeld ?_
   try simp only [Act.put,ub1,ub2,ub3]
   refine tkU (i:=2) rfl hHeld ?_
   try simp only [Act.put,ub1,ub2,ub3]
   refine tkU (i:=3) rfl hHeld ?_
   try simp only [Act.put,ub1,ub2,ub3]
   refine tkU (i:=4) rfl hHeld ?_
   try simp only [Act.put,ub1,ub2,ub3]
   refine tkU (i:=6) rfl hHeld ?_
   try simp only [Act.put,ub1,ub2,ub3]
   refine tkU (i:=7) rfl hHeld ?_
   try simp only [Act.put,ub1,ub2,ub3]
   refine tkU (i:=8) rfl hHeld ?_
   try simp only [Act.put,ub1,ub2,ub3]
   refine tkU (i:=9) rfl hHeld ?_
   try simp only [Act.put,ub1,ub2,ub3]
   refine tkU (i:=10) rfl hHeld ?_
   try simp only [Act.put,ub1,ub2,ub3]
   refine ready_U (rs:=[5]) (by kernel_rfl) (by simp) ?_
   refine cons_U rfl (fun K hK=>?_) nil_U
   go_simp
   go_at_call 44
   refine (HA1.out WA.drew).mono ?_
   rintro e w3 ⟨rfl,hb⟩
   have K3:=Lh (Below.trans (Below.refl WA.heap.size WA).drew (hb.mono (Nat.le_refl _)))
   clear hb
   go_simp
   refine hK.out _ _ ?_ (fun hHeld2=>?_)
   ·exact HKS.out _ (Chalk.Mod.of_below K3.out)
   clear hK K hHeld
   have hHeld:=hHeld2
   clear hHeld2
   try simp only [Act.put,ub1,ub2,ub3]
   refine ready_U (rs:=[11]) (by kernel_rfl) (by simp) ?_
   refine cons_U rfl (fun K hK=>?_) nil_U
   go_simp
   go_at_call 46
   refine (HI1.out w3).mono ?_
   rintro e w4 ⟨rfl,hb⟩
   have K4:=Lh (K3.out.trans (hb.mono K3.out.size))
   clear hb
   have k4:=(K4.out.block w2.heap.size (by have:=HA.out;omega)).trans HA.out.2.2.1
   have hn4:=HLN.out j
   have hsz4:((trueK s l j).map Value.bool).toArray.size=wkVars s+1:=by simp [hn4]
   have xc:w4.cell? ⟨w2.heap.size,v1,none⟩=some (.bool ((trueK s l j)[v1]'(by omega))):=cH k4 (by simp)
   have xf:w4.frozen? ⟨w2.heap.size,v1,none⟩=false:=fH k4
   have xl:=(gS k4).1
   have k5:=box_store (i:=v1) (.bool true) k4
   rw [bools_set] at k5
   have hn5:((trueK s l j).set v1 true).length=wkVars s+1:=by simp [hn4]
   have HK5:=Lh (aI k5 hn5)
   generalize (trueK s l j)[v1]'(by omega)=bv at xc
   have i1:(0:Int)<=(v1:Int):=by omega
   have i2:(v1:Int)<((wkVars s:Nat):Int)+1:=by omega
   have i3:(0:Int)<=(v2:Int):=by omega
   have i4:(v2:Int)<((wkVars s:Nat):Int)+1:=by omega
   clear k4 hn4 hsz4 k5 hn5
   go_simp
   refine hK.out _ _ ?_ (fun hHeld2=>?_)
   ·exact HKS.out _ (Chalk.Mod.of_below K4.out)
   clear hK K hHeld
   have hHeld:=hHeld2
   clear hHeld2
   try simp only [Act.put,ub1,ub2,ub3]
   refine tkU (i:=12) rfl hHeld ?_
   try simp only [Act.put,ub1,ub2,ub3]
   refine ready_U (rs:=[13]) (by kernel_rfl) (by simp) ?_
   refine cons_U rfl (fun K hK=>?_) nil_U
   go_simp
   refine hK.out _ _ ?_ (fun hHeld2=>?_)
   ·exact HKS.out _ ((Chalk.Mod.of_below (S:=fun k=>k=w2.heap.size) K4.out).setCell (p:=⟨w2.heap.size,v1,none⟩) (fun _=>rfl) _)
   clear hK K hHeld
   have hHeld:=hHeld2
   clear hHeld2
   try simp only [Act.put,ub1,ub2,ub3]
   refine tkU (i:=14) rfl hHeld ?_
   try simp only [Act.put,ub1,ub2,ub3]
   have hm6:Chalk.Mod (fun k=>k=w2.heap.size) WA (w4.setCell ⟨w2.heap.size,v1,none⟩ (.bool true)):=(Chalk.Mod.of_below (S:=fun k=>k=w2.heap.size) K4.out).setCell (p:=⟨w2.heap.size,v1,none⟩) (fun _=>rfl) _
   have k6:=HK5.out.1
   generalize w4.setCell ⟨w2.heap.size,v1,none⟩ (.bool true)=w6 at hm6 k6 hHeld ⊢
   have zc:w6.cell? ⟨w2.heap.size,v2,none⟩=some (.bool (((trueK s l j).set v1 true)[v2]'(by have:=HK5.out.2;omega))):=cH k6 (by rw [List.getElem?_toArray,List.getElem?_map,List.getElem?_eq_getElem (by have:=HK5.out.2;omega)];rfl)
   have zf:w6.frozen? ⟨w2.heap.size,v2,none⟩=false:=fH k6
   have zl:=(gS k6).1
   have k7:=box_store (i:=v2) (.bool true) k6
   rw [bools_set,<- HTS.out] at k7
   have HK7:=Lh (aI hm6 k7)
   generalize ((trueK s l j).set v1 true)[v2]'(by have:=HK5.out.2;omega)=bw at zc
   clear hm6 k6 k7 xc xf xl
   refine ready_U (rs:=[15]) (by kernel_rfl) (by simp) ?_
   refine cons_V rfl (by kernel_rfl) (fun K hK=>?_) nil_U
   go_simp
   refine hK.out _ _ ?_
   clear hK K
   try simp only [Act.put,ub1,ub2,ub3]
   refine done_U (by kernel_rfl) ?_ _
   clear hHeld
   refine NoPanic.normal ?_
   go_wp2_with fail
   go_roundw
   case measure=>simp [intOf];omega
   case rel=>exact ⟨j+1,by omega,by go_num,Lh ⟨(HRR.out.1.trans (Chalk.Mod.of_below (S:=fun k=>k=w2.heap.size) HA.out.1) (fun _ _ h=>h)).trans (HK7.out.1.setCell (p:=⟨w2.heap.size,v2,none⟩) (fun _=>rfl) _) (fun _ _ h=>h),HK7.out.2⟩⟩
  ·have hjl:j=l.length:=by omega
   subst hjl
   have hnl:decide ((l.length:Int)<(l.length:Int))=false:=by simp
   have HF:=Lh HRR.out
   clear HRR hlt hj
   go_wp2_with fail
   go_ret2
   rw [HE.out]
   have hln:=HLN.out l.length
   have hlt:=(gS HF.out.2).1
   refine ⟨⟨some ⟨w2.heap.size,0,none⟩,w2.heap.size,0,wkVars s+1⟩,by rw [hln];rfl,?_,H2.out.1.trans (HF.out.1.below H2.out.1.size (fun k hk=>by have:=H2.out.1.size;omega))⟩
   exact SlIn.lit HF.out.2 DsAt.bools ⟨H2.out.1.size,hlt⟩ (by rw [dbools_length,hln];exact Nat.le_refl _) (by unfold maxLen;omega)
end Go.Proofs.YtjjkfgjnadaheaaGreatDoor
/- The reference's Few of a school, the law's few: they answer. -/
namespace Go.Proofs.YtjjkfgjnadaheaaGreatDoor
open Go.RowKit Go.Chalk
def SomeB (e:Ending):Prop:=∃ b:Bool,e=.returned (.bool b)

theorem rfew10_any (s:Schl) (x:SchA) (w:World) (hs:SchIn w (·<w.heap.size) s x) (hsm:s.lessons.length<=2000000) :
  Calls Tryz.prog 15 #[.agg (x.cells s).toArray] w fun e w'=>SomeB e/\Below w.heap.size w w':=by
 have hba:Below w.heap.size w (w.alloc (.cells (x.cells s).toArray 28)):=(Below.refl _ _).alloc (Nat.le_refl _) _
 have hbx:SchBox (w.alloc (.cells (x.cells s).toArray 28)) w.heap.size s x:=by unfold SchBox;rw [heap_get,if_pos rfl]
 have HB:=Lh (aI hba hbx)
 have HS:=Lh hs
 have HSM:=Lh hsm
 obtain ⟨c0,c1,c2,c3,c4⟩:=hbx.cells
 clear hs hsm hba hbx
 simp only [SchA.cells,SlA.val] at HB c0 c1 c2 c3 c4 ⊢
 go_enter Tryz.func15,Tryz.ntmps15
 go_wp2_with fail
 clear c0 c1 c2 c3 c4
 go_loopw [8] (fun i wr=>∃ (j:Nat),j<=s.lessons.length/\i=.int .i64 j/\Below w.heap.size w wr/\Hid (SchBox wr w.heap.size s x)) (fun i _=>s.lessons.length - (intOf i).toNat)
 case atStart=>exact ⟨0,Nat.zero_le _,rfl,HB.out.1,Lh HB.out.2⟩
 case round =>
  obtain ⟨j,hj,rfl,hb,HBX⟩:=hrel
  have HB0:=Lh hb
  have hsm:=HSM.out
  by_cases hlt:j<s.lessons.length
  ·obtain ⟨y1,y2,_,_,_,hy2⟩:=HS.out.lessons.lsn j hlt
   obtain ⟨hxa,hFb⟩:=HS.out.lessons.at_ (by rw [List.length_map];omega)
   obtain ⟨e0,e1,e2⟩:=(hy2.agree (agree_of_below hb) hFb).three
   have hlt2:x.lessons.b<wr.heap.size:=Nat.lt_of_lt_of_le hFb hb.size
   simp only [SlA.val] at e1 e2
   generalize (s.lessons[j]).who.length=sl at e1
   generalize (s.lessons[j]).groups.length=sl2 at e2
   rw [hxa]
   clear hy2 hFb hxa hb
   go_wp2_with fail
   all_goals first
    | (go_ret;exact ⟨⟨_,rfl⟩,HB0.out.alloc HB0.out.size _⟩)
    | exact ⟨⟨j+1,by omega,by go_num,HB0.out.alloc HB0.out.size _,Lh (HBX.out.below ((Below.refl _ _).alloc (Nat.le_refl _) _))⟩,by simp [intOf];omega⟩
  ·have HV:Hid True:=Lh trivial
   obtain ⟨c0,c1,c2,c3,c4⟩:=HBX.out.cells
   clear hb
   go_wp2_with fail
   all_goals
    go_ret
    exact ⟨⟨_,rfl⟩,HB0.out⟩

theorem few10_any (s:Schl) (x:SchA) (l:List Ev) (y:SlA) (f:Frm) (fa:FrmA) (w:World) (hs:SchIn w (·<w.heap.size) s x) (hsm:s.lessons.length<=2000000) (hff:f.size<=2000000) (hx:FrmIn w (·<w.heap.size) f fa) :
  Calls Tryz.prog 11 #[.agg (x.cells s).toArray,.slice y.a l.length y.cap,ndV (f,fa)] w fun e w'=>SomeB e/\Below w.heap.size w w':=by
 have HFW:=Lh (fun (W:World) (hW:Below w.heap.size w W)=>rfew10_any s x W (hs.later hW hW.size) hsm)
 have HSZ:=Lh (fun (W:World) (hW:Below w.heap.size w W)=>rsize_any f.size f fa W (Nat.le_refl _) hff (hx.later hW hW.size))
 clear hs hx hsm hff
 obtain ⟨W0,hW0⟩:∃ W0,W0=(w.alloc (.cells (x.cells s).toArray 28)).alloc (.cells (fa.cells f).toArray 34):=⟨_,rfl⟩
 have hb0:Below w.heap.size w W0:=by rw [hW0];exact ((Below.refl _ _).alloc (Nat.le_refl _) _).alloc (by simp) _
 have hs0:SchBox W0 w.heap.size s x:=by rw [hW0];unfold SchBox;rw [heap_get,if_neg (by simp),heap_get,if_pos rfl]
 have hf0:FrmBox W0 (w.heap.size+1) f fa:=by rw [hW0];unfold FrmBox;rw [heap_get,if_pos (by simp)]
 have HE:Hid (∀ W,Below W0.heap.size W0 W->Below w.heap.size w W/\(W.cell? ⟨w.heap.size,0,none⟩=some (.slice x.slots.a s.slots.length x.slots.cap)/\W.cell? ⟨w.heap.size,1,none⟩=some (.slice x.rooms.a s.rooms.length x.rooms.cap)/\W.cell? ⟨w.heap.size,2,none⟩=some (.slice x.people.a s.people.length x.people.cap)/\W.cell? ⟨w.heap.size,3,none⟩=some (.slice x.groups.a s.groups.length x.groups.cap)/\W.cell? ⟨w.heap.size,4,none⟩=some (.slice x.lessons.a s.lessons.length x.lessons.cap)) /\
   (W.cell? ⟨w.heap.size+1,0,none⟩=some (.int .i64 f.kind)/\W.cell? ⟨w.heap.size+1,1,none⟩=some (.string ⟨f.name.toArray⟩)/\W.cell? ⟨w.heap.size+1,2,none⟩=some (.int .i64 f.n)/\W.cell? ⟨w.heap.size+1,3,none⟩=some (.slice fa.t.a f.terms.length fa.t.cap)/\W.cell? ⟨w.heap.size+1,4,none⟩=some (.slice fa.b.a f.binds.length fa.b.cap)/\W.cell? ⟨w.heap.size+1,5,none⟩=some (.slice fa.l.a f.l.length fa.l.cap))):=Lh (fun W hW =>
  ⟨hb0.trans (hW.mono hb0.size),(hs0.below hW).cells,(hf0.below hW).cells⟩)
 have HW0:=Lh hW0
 clear hb0 hs0 hf0 hW0
 obtain ⟨kind,name,n,terms,binds,fl⟩:=f
 simp only [ndV,SchA.cells,FrmA.cells,SlA.val,Frm.kind,Frm.name,Frm.n,Frm.terms,Frm.binds,Frm.l] at HFW HSZ HW0 HE ⊢
 go_enter Tryz.func11,Tryz.ntmps11
 go_wp2_with fail
 rw [<- HW0.out]
 obtain ⟨hbb,⟨c0,c1,c2,c3,c4⟩,_⟩:=HE.out W0 (Below.refl _ _)
 have HBB:=Lh hbb
 clear hbb
 go_wp2_with fail
 refine (HFW.out _ HBB.out).mono ?_
 rintro e w1 ⟨⟨b1,rfl⟩,hb1⟩
 have H1:=Lh hb1
 clear hb1 c0 c1 c2 c3 c4
 cases b1
 ·go_wp2_with fail
  go_ret
  exact ⟨⟨_,rfl⟩,(HE.out _ H1.out).1⟩
 by_cases p2:(l.length:Int)<=6
 rotate_left
 ·have p2':decide ((l.length:Int)<=6)=false:=decide_eq_false p2
  clear p2
  go_wp2_with fail
  go_ret
  exact ⟨⟨_,rfl⟩,(HE.out _ H1.out).1⟩
 obtain ⟨_,_,f0,f1,f2,f3,f4,f5⟩:=HE.out w1 H1.out
 go_wp2_with fail
 refine (HSZ.out _ (HE.out _ H1.out).1).mono ?_
 rintro e w2 ⟨n1,rfl,hb2⟩
 have H2:=Lh (H1.out.trans (hb2.mono H1.out.size))
 clear hb2 f0 f1 f2 f3 f4 f5
 by_cases p3:(n1:Int)<=40
 ·go_wp2_with fail
  go_ret
  exact ⟨⟨_,rfl⟩,(HE.out _ H2.out).1⟩
 have p3':decide ((n1:Int)<=40)=false:=decide_eq_false p3
 clear p3
 go_wp2_with fail
 go_ret
 exact ⟨⟨_,rfl⟩,(HE.out _ H2.out).1⟩
end Go.Proofs.YtjjkfgjnadaheaaGreatDoor
/- The law's two and at: a school and a formula of the ground chapter's example. -/
namespace Go.Chalk
open Go.RowKit
theorem FrmIn.cells_at {w:World} {F:Nat->Prop} {f:Frm} {y:FrmA} (h:FrmIn w F f y):DAt w F f.toD (y.cells f):=FrmIn.iff.2 ⟨y,rfl,h⟩
theorem DsAt.two_of {w:World} {F:Nat->Prop} {x y:D} {cs ds:List Value} (h:DAt w F x cs) (k:DAt w F y ds):DsAt w F [x,y] (cs++ds):=by
 rw [DsAt];exact ⟨cs,ds,rfl,h,by rw [DsAt];exact ⟨ds,[],by simp,k,by rw [DsAt]⟩⟩
theorem DsAt.one_of' {w:World} {F:Nat->Prop} {x:D} {cs:List Value} (h:DAt w F x cs):DsAt w F [x] cs:=by rw [DsAt];exact ⟨cs,[],(List.append_nil _).symm,h,by rw [DsAt]⟩
def Fr (lo:Nat) (w:World) (k:Nat):Prop:=lo<=k/\k<w.heap.size
theorem SlIn.laterB {lo:Nat} {w w':World} {xs:List D} {x:SlA} (h:SlIn w (Fr lo w) xs x) (hb:Below w.heap.size w w'):SlIn w' (Fr lo w') xs x :=
 (h.agree (fun k hk=>hb.block k hk.2)).mono (fun _ hk=>⟨hk.1,Nat.lt_of_lt_of_le hk.2 hb.size⟩)
theorem FrmIn.laterB {lo:Nat} {w w':World} {f:Frm} {x:FrmA} (h:FrmIn w (Fr lo w) f x) (hb:Below w.heap.size w w'):FrmIn w' (Fr lo w') f x :=
 (h.agree (fun k hk=>hb.block k hk.2)).mono (fun _ hk=>⟨hk.1,Nat.lt_of_lt_of_le hk.2 hb.size⟩)
theorem FrmIn.all {lo:Nat} {w:World} {f:Frm} {x:FrmA} (h:FrmIn w (Fr lo w) f x):FrmIn w (·<w.heap.size) f x:=h.mono (fun _ hk=>hk.2)
theorem SlIn.lit' {lo:Nat} {w:World} {xs:List D} {cs:List Value} {e:TypeId} {n:Nat} (hlo:lo<=w.heap.size) (h:DsAt w (Fr lo w) xs cs) (hn:xs.length=n) (hm:n<=maxLen) :
  SlIn (w.alloc (.cells cs.toArray e)) (Fr lo (w.alloc (.cells cs.toArray e))) xs ⟨some ⟨w.heap.size,0,none⟩,w.heap.size,0,n⟩ :=
 SlIn.lit (by rw [heap_get,if_pos rfl]) (DsAt.mono (fun k hk=>⟨hk.1,by have:=hk.2;simp;omega⟩) _ _ (DsAt.agree (fun k hk=>Below.heap_alloc _ _ _ hk.2) _ _ h)) ⟨hlo,by simp⟩ (by omega) hm
theorem str_at {W:World} {F:Nat->Prop} (n:Bs) (h:n.length<=4000000):DAt W F (.str ⟨n.toArray⟩) [.string ⟨n.toArray⟩]:=by
 rw [DAt];exact ⟨rfl,by rw [bs_size];unfold maxLen;omega⟩
theorem int_at {W:World} {F:Nat->Prop} (n:Int) (h : -1000<=n/\n<=1000):DAt W F (.int .i64 n) [.int .i64 n]:=by
 rw [DAt];exact ⟨rfl,I64.wf (show I64 n by unfold I64;omega)⟩
theorem nil_at {W:World} {F:Nat->Prop}:DAt W F (.sl []) [.slice none 0 0]:=DAt.sl_iff.2 ⟨⟨none,0,0,0⟩,rfl,SlIn.nil (Nat.zero_le _) _ _ _⟩
theorem dcons {W:World} {F:Nat->Prop} {x:D} {xs:List D} {cs ds:List Value} (h:DAt W F x cs) (k:DsAt W F xs ds):DsAt W F (x :: xs) (cs++ds):=by rw [DsAt];exact ⟨cs,ds,rfl,h,k⟩
theorem dnil {W:World} {F:Nat->Prop}:DsAt W F [] []:=by rw [DsAt]
def grS:Schl:={ slots:=[⟨[97],0,0⟩,⟨[98],0,1⟩],rooms:=[⟨[114],0,0,[]⟩],people:=[],groups:=[],lessons:=[⟨[120],[],[]⟩] }
def grT:List Trm:=[⟨2,[108],0⟩,⟨2,[115],0⟩]
def grF:Frm:=.mk 3 [] 0 grT [] []
def grB:List Bnd:=[⟨[115],2⟩]
def grA (kind n:Int):Frm:=.mk kind [] n [] grB [grF]
theorem gr_slots {W:World} {F:Nat->Prop}:DsAt W F (grS.slots.map Slt.toD) [.string ⟨#[97]⟩,.int .i64 0,.int .i64 0,.string ⟨#[98]⟩,.int .i64 0,.int .i64 1]:=by
 have h1:DAt W F (Slt.toD ⟨[97],0,0⟩) [.string ⟨#[97]⟩,.int .i64 0,.int .i64 0]:=by rw [Slt.toD,DAt];exact dcons (str_at [97] (by decide)) (dcons (int_at 0 (by decide)) (dcons (int_at 0 (by decide)) dnil))
 have h2:DAt W F (Slt.toD ⟨[98],0,1⟩) [.string ⟨#[98]⟩,.int .i64 0,.int .i64 1]:=by rw [Slt.toD,DAt];exact dcons (str_at [98] (by decide)) (dcons (int_at 0 (by decide)) (dcons (int_at 1 (by decide)) dnil))
 exact dcons h1 (dcons h2 dnil)
theorem gr_rooms {W:World} {F:Nat->Prop}:DsAt W F (grS.rooms.map Rom.toD) [.string ⟨#[114]⟩,.int .i64 0,.int .i64 0,.slice none 0 0]:=by
 have h1:DAt W F (Rom.toD ⟨[114],0,0,[]⟩) [.string ⟨#[114]⟩,.int .i64 0,.int .i64 0,.slice none 0 0]:=by rw [Rom.toD,DAt];exact dcons (str_at [114] (by decide)) (dcons (int_at 0 (by decide)) (dcons (int_at 0 (by decide)) (dcons nil_at dnil)))
 exact dcons h1 dnil
theorem gr_lessons {W:World} {F:Nat->Prop}:DsAt W F (grS.lessons.map Lsn.toD) [.string ⟨#[120]⟩,.slice none 0 0,.slice none 0 0]:=by
 have h1:∀ c:UInt8,DAt W F (Lsn.toD ⟨[c],[],[]⟩) [.string ⟨#[c]⟩,.slice none 0 0,.slice none 0 0]:=fun c=>by rw [Lsn.toD,DAt];exact dcons (str_at [c] (by show (1:Nat)<=_;omega)) (dcons nil_at (dcons nil_at dnil))
 exact dcons (h1 120) dnil
theorem gr_terms {W:World} {F:Nat->Prop}:DsAt W F (grT.map Trm.toD) [.int .i64 2,.string ⟨#[108]⟩,.int .i64 0,.int .i64 2,.string ⟨#[115]⟩,.int .i64 0]:=by
 have h1:∀ c:UInt8,DAt W F (Trm.toD ⟨2,[c],0⟩) [.int .i64 2,.string ⟨#[c]⟩,.int .i64 0]:=fun c=>by rw [Trm.toD,DAt];exact dcons (int_at 2 (by decide)) (dcons (str_at [c] (by show (1:Nat)<=_;omega)) (dcons (int_at 0 (by decide)) dnil))
 exact dcons (h1 108) (dcons (h1 115) dnil)
theorem gr_binds {W:World} {F:Nat->Prop}:DsAt W F (grB.map Bnd.toD) [.string ⟨#[115]⟩,.int .i64 2]:=by
 have h1:DAt W F (Bnd.toD ⟨[115],2⟩) [.string ⟨#[115]⟩,.int .i64 2]:=by rw [Bnd.toD,DAt];exact dcons (str_at [115] (by decide)) (dcons (int_at 2 (by decide)) dnil)
 exact dcons h1 dnil
end Go.Chalk
namespace Go.Proofs.YtjjkfgjnadaheaaGreatDoor
open Go.RowKit Go.Chalk
theorem two10_any (w:World) (lo:Nat) (hlo:lo<=w.heap.size) :
  Calls Tryz.prog 33 #[] w fun e w'=>∃ x:SchA,e=.returned (.agg (x.cells grS).toArray)/\SchIn w' (Fr lo w') grS x/\Below w.heap.size w w':=by
 go_enter Tryz.func33,Tryz.ntmps33
 go_wp2_with fail
 refine bodyPost_ret (v:=.agg #[.slice (some ⟨w.heap.size+1,0,none⟩) 2 2,.slice (some ⟨w.heap.size+1+1,0,none⟩) 1 1,.slice none 0 0,.slice none 0 0,.slice (some ⟨w.heap.size+1+1+1,0,none⟩) 1 1]) (by simp [results,Tryz.results33,go_sem]) rfl ?_
 obtain ⟨W1,hW1⟩:∃ W1,W1=w.alloc (.cells #[.slice (some ⟨w.heap.size+1,0,none⟩) 2 2,.slice (some ⟨w.heap.size+1+1,0,none⟩) 1 1,.slice none 0 0,.slice none 0 0,.slice (some ⟨w.heap.size+1+1+1,0,none⟩) 1 1] 28):=⟨_,rfl⟩
 rw [<- hW1]
 have z1:W1.heap.size=w.heap.size+1:=by rw [hW1];simp
 have b1:Below w.heap.size w W1:=by rw [hW1];exact (Below.refl _ _).alloc (Nat.le_refl _) _
 have s1:=SlIn.lit' (lo:=lo) (w:=W1) (e:=114) (n:=2) (by omega) gr_slots rfl (by decide)
 obtain ⟨W2,hW2⟩:∃ W2,W2=W1.alloc (.cells #[.string ⟨#[97]⟩,.int .i64 0,.int .i64 0,.string ⟨#[98]⟩,.int .i64 0,.int .i64 1] 114):=⟨_,rfl⟩
 rw [<- hW2] at s1 ⊢
 have z2:W2.heap.size=w.heap.size+2:=by rw [hW2];simp [z1]
 have b2:Below w.heap.size w W2:=by rw [hW2];exact b1.alloc (by omega) _
 have s2:=SlIn.lit' (lo:=lo) (w:=W2) (e:=118) (n:=1) (by omega) gr_rooms rfl (by decide)
 obtain ⟨W3,hW3⟩:∃ W3,W3=W2.alloc (.cells #[.string ⟨#[114]⟩,.int .i64 0,.int .i64 0,.slice none 0 0] 118):=⟨_,rfl⟩
 have c3:Below W2.heap.size W2 W3:=by rw [hW3];exact (Below.refl _ _).alloc (Nat.le_refl _) _
 rw [<- hW3] at s2 ⊢
 have z3:W3.heap.size=w.heap.size+3:=by rw [hW3];simp [z2]
 have b3:Below w.heap.size w W3:=by rw [hW3];exact b2.alloc (by omega) _
 have s3:=SlIn.lit' (lo:=lo) (w:=W3) (e:=92) (n:=1) (by omega) gr_lessons rfl (by decide)
 obtain ⟨W4,hW4⟩:∃ W4,W4=W3.alloc (.cells #[.string ⟨#[120]⟩,.slice none 0 0,.slice none 0 0] 92):=⟨_,rfl⟩
 have c4:Below W3.heap.size W3 W4:=by rw [hW4];exact (Below.refl _ _).alloc (Nat.le_refl _) _
 rw [<- hW4] at s3 ⊢
 have b4:Below w.heap.size w W4:=by rw [hW4];exact b3.alloc (by omega) _
 exact ⟨⟨⟨some ⟨W1.heap.size,0,none⟩,W1.heap.size,0,2⟩,⟨some ⟨W2.heap.size,0,none⟩,W2.heap.size,0,1⟩,⟨none,0,0,0⟩,⟨none,0,0,0⟩,⟨some ⟨W3.heap.size,0,none⟩,W3.heap.size,0,1⟩⟩,by rw [z1,z2,z3];rfl,
  ⟨(s1.laterB c3).laterB c4,s2.laterB c4,SlIn.nil (Nat.zero_le _) _ _ _,SlIn.nil (Nat.zero_le _) _ _ _,s3⟩,b4⟩

theorem at10_any (kind n:Int) (w:World) (lo:Nat) (hlo:lo<=w.heap.size) (hk:I64 kind) (hn:I64 n) :
  Calls Tryz.prog 34 #[.int .i64 kind,.int .i64 n] w fun e w'=>∃ u:FrmA,e=.returned (ndV (grA kind n,u))/\FrmIn w' (Fr lo w') (grA kind n) u/\Below w.heap.size w w':=by
 go_enter Tryz.func34,Tryz.ntmps34
 go_wp2_with fail
 obtain ⟨W1,hW1⟩:∃ W1,W1=w.alloc (.cells #[.int .i64 kind,.string ⟨#[]⟩,.int .i64 n,.slice none 0 0,.slice (some ⟨w.heap.size+1+1+1,0,none⟩) 1 1,.slice (some ⟨w.heap.size+1+1+1+1,0,none⟩) 1 1] 34):=⟨_,rfl⟩
 rw [<- hW1]
 have z1:W1.heap.size=w.heap.size+1:=by rw [hW1];simp
 have b1:Below w.heap.size w W1:=by rw [hW1];exact (Below.refl _ _).alloc (Nat.le_refl _) _
 have s1:=SlIn.lit' (lo:=lo) (w:=W1) (e:=147) (n:=2) (by omega) gr_terms rfl (by decide)
 obtain ⟨W2,hW2⟩:∃ W2,W2=W1.alloc (.cells #[.int .i64 2,.string ⟨#[108]⟩,.int .i64 0,.int .i64 2,.string ⟨#[115]⟩,.int .i64 0] 147):=⟨_,rfl⟩
 rw [<- hW2] at s1 ⊢
 have z2:W2.heap.size=w.heap.size+2:=by rw [hW2];simp [z1]
 have c2:Below W1.heap.size W1 W2:=by rw [hW2];exact (Below.refl _ _).alloc (Nat.le_refl _) _
 have b2:Below w.heap.size w W2:=by rw [hW2];exact b1.alloc (by omega) _
 obtain ⟨W3,hW3⟩:∃ W3,W3=W2.alloc (.cells #[.int .i64 3,.string ⟨#[]⟩,.int .i64 0,.slice (some ⟨w.heap.size+1,0,none⟩) 2 2,.slice none 0 0,.slice none 0 0] 34):=⟨_,rfl⟩
 have c3:Below W2.heap.size W2 W3:=by rw [hW3];exact (Below.refl _ _).alloc (Nat.le_refl _) _
 rw [<- hW3]
 have z3:W3.heap.size=w.heap.size+3:=by rw [hW3];simp [z2]
 have b3:Below w.heap.size w W3:=by rw [hW3];exact b2.alloc (by omega) _
 have s3:=SlIn.lit' (lo:=lo) (w:=W3) (e:=149) (n:=1) (by omega) gr_binds rfl (by decide)
 obtain ⟨W4,hW4⟩:∃ W4,W4=W3.alloc (.cells #[.string ⟨#[115]⟩,.int .i64 2] 149):=⟨_,rfl⟩
 have c4:Below W3.heap.size W3 W4:=by rw [hW4];exact (Below.refl _ _).alloc (Nat.le_refl _) _
 rw [<- hW4] at s3 ⊢
 have z4:W4.heap.size=w.heap.size+4:=by rw [hW4];simp [z3]
 have b4:Below w.heap.size w W4:=by rw [hW4];exact b3.alloc (by omega) _
 have hg:FrmIn W4 (Fr lo W4) grF ⟨⟨some ⟨W1.heap.size,0,none⟩,W1.heap.size,0,2⟩,⟨none,0,0,0⟩,⟨none,0,0,0⟩⟩ :=
  ⟨(show I64 3 by unfold I64;omega),Nat.zero_le _,(show I64 0 by unfold I64;omega),(s1.laterB c3).laterB c4,SlIn.nil (Nat.zero_le _) _ _ _,SlIn.nil (Nat.zero_le _) _ _ _⟩
 have s4:=SlIn.lit' (lo:=lo) (w:=W4) (e:=34) (n:=1) (by omega) (DsAt.one_of' hg.cells_at) rfl (by decide)
 have hcs:FrmA.cells ⟨⟨some ⟨W1.heap.size,0,none⟩,W1.heap.size,0,2⟩,⟨none,0,0,0⟩,⟨none,0,0,0⟩⟩ grF=[.int .i64 3,.string ⟨#[]⟩,.int .i64 0,.slice (some ⟨w.heap.size+1,0,none⟩) 2 2,.slice none 0 0,.slice none 0 0]:=by rw [z1];rfl
 rw [hcs] at s4
 obtain ⟨W5,hW5⟩:∃ W5,W5=W4.alloc (.cells #[.int .i64 3,.string ⟨#[]⟩,.int .i64 0,.slice (some ⟨w.heap.size+1,0,none⟩) 2 2,.slice none 0 0,.slice none 0 0] 34):=⟨_,rfl⟩
 have c5:Below W4.heap.size W4 W5:=by rw [hW5];exact (Below.refl _ _).alloc (Nat.le_refl _) _
 rw [<- hW5] at s4 ⊢
 have b5:Below w.heap.size w W5:=by rw [hW5];exact b4.alloc (by omega) _
 have q1:W1.heap[w.heap.size]?=some (.cells #[.int .i64 kind,.string ⟨#[]⟩,.int .i64 n,.slice none 0 0,.slice (some ⟨w.heap.size+1+1+1,0,none⟩) 1 1,.slice (some ⟨w.heap.size+1+1+1+1,0,none⟩) 1 1] 34 (0,0)):=by rw [hW1,heap_get,if_pos rfl]
 have q5:W5.heap[w.heap.size]?=some (.cells #[.int .i64 kind,.string ⟨#[]⟩,.int .i64 n,.slice none 0 0,.slice (some ⟨w.heap.size+1+1+1,0,none⟩) 1 1,.slice (some ⟨w.heap.size+1+1+1+1,0,none⟩) 1 1] 34 (0,0)) :=
  (c5.block _ (by omega)).trans ((c4.block _ (by omega)).trans ((c3.block _ (by omega)).trans ((c2.block _ (by omega)).trans q1)))
 have k0:W5.cell? ⟨w.heap.size,0,none⟩=some (.int .i64 kind):=cH q5 rfl
 have k1:W5.cell? ⟨w.heap.size,1,none⟩=some (.string ⟨#[]⟩):=cH q5 rfl
 have k2:W5.cell? ⟨w.heap.size,2,none⟩=some (.int .i64 n):=cH q5 rfl
 have k3:W5.cell? ⟨w.heap.size,3,none⟩=some (.slice none 0 0):=cH q5 rfl
 have k4:W5.cell? ⟨w.heap.size,4,none⟩=some (.slice (some ⟨w.heap.size+1+1+1,0,none⟩) 1 1):=cH q5 rfl
 have k5:W5.cell? ⟨w.heap.size,5,none⟩=some (.slice (some ⟨w.heap.size+1+1+1+1,0,none⟩) 1 1):=cH q5 rfl
 refine bodyPost_ret (v:=.agg #[.int .i64 kind,.string ⟨#[]⟩,.int .i64 n,.slice none 0 0,.slice (some ⟨w.heap.size+1+1+1,0,none⟩) 1 1,.slice (some ⟨w.heap.size+1+1+1+1,0,none⟩) 1 1]) (by simp [results,Tryz.results34,go_sem,k0,k1,k2,k3,k4,k5]) rfl ?_
 exact ⟨⟨⟨none,0,0,0⟩,⟨some ⟨W3.heap.size,0,none⟩,W3.heap.size,0,1⟩,⟨some ⟨W4.heap.size,0,none⟩,W4.heap.size,0,1⟩⟩,by rw [z3,z4];rfl,
  ⟨hk,Nat.zero_le _,hn,SlIn.nil (Nat.zero_le _) _ _ _,(s3.laterB c5),s4⟩,b5⟩
end Go.Proofs.YtjjkfgjnadaheaaGreatDoor
