/- Joined texts: GTreeC. -/
import Derived.Test.YtjjkfgjnadaheaaGreatDoorB41
import Derived.Test.YtjjkfgjnadaheaaGreatDoorB33
import Derived.Test.YtjjkfgjnadaheaaGreatDoorB35
set_option linter.unusedVariables false
set_option linter.unusedSimpArgs false
set_option maxHeartbeats 4000000
set_option maxRecDepth 100000

/- ground's maker.tree: a leaf. (written by tools/gen_gtreec.py) -/
namespace Go.Proofs.YtjjkfgjnadaheaaGreatDoor
open Go.RowKit Go.Chalk
attribute [local go_sem] Oper.semAt_some
theorem wkAt_fit (s:Schl) (i j:Int) (hs1:s.lessons.length<=2000000) (hs2:s.slots.length<=2000000) (hs3:s.rooms.length<=2000000):I64 (wkAt s i j):=by
 unfold wkAt
 split
 ·rename_i h
  have:=mul_fit _ _ hs1 hs2 i h.1.1 (by omega)
  exact ⟨by omega,by omega⟩
 ·exact i64_small (by decide) (by decide)
theorem wkIn_fit (s:Schl) (i j:Int) (hs1:s.lessons.length<=2000000) (hs2:s.slots.length<=2000000) (hs3:s.rooms.length<=2000000):I64 (wkIn s i j):=by
 unfold wkIn
 split
 ·rename_i h
  have:=mul_fit _ _ hs1 hs3 i h.1.1 (by omega)
  have:=mul_fit _ _ hs1 hs2 s.lessons.length (by omega) (by omega)
  exact ⟨by omega,by omega⟩
 ·exact i64_small (by decide) (by decide)

theorem gat_any (t u:Trm) (n:Int) (name:Bs) (binds:List Bnd) (l:List Frm) (fa:FrmA) (env:List Ev) (z:SlA) (s:Schl) (x:SchA) (w0 w:World) (mb left:Nat) (hf:SchFit s) (h0:Below w0.heap.size w0 w) (hmb0:w0.heap.size<=mb) (hs:SchIn w0 (·<w0.heap.size) s x) (hx:FrmIn w0 (·<w0.heap.size) (.mk 3 name n [t,u] binds l) fa) (hz:SlIn w (Off mb w) (env.map Ev.toD) z) (hel:env.length<=1500000) (hm:MkB w mb s x left) (hl:left<=65536) :
  Calls Tryz.prog 38 #[.pointer (some ⟨mb,0,none⟩),.slice z.a env.length z.cap,ndV (.mk 3 name n [t,u] binds l,fa)] w (TreeP s x mb left w (.mk 2 (wkAt s (plOf env t.name) (plOf env u.name)) 0 [])):=by
 have hmlt:=hm.lt
 obtain ⟨W0,hW0⟩:∃ W0,W0=(w.alloc (.cells (fa.cells (.mk 3 name n [t,u] binds l)).toArray 34)).alloc (.cells #[.int .i64 0,.int .i64 0,.int .i64 0,.slice none 0 0] 39):=⟨_,rfl⟩
 have hb0:Below w.heap.size w W0:=by rw [hW0];exact ((Below.refl _ _).alloc (Nat.le_refl _) _).alloc (by simp) _
 have hz0:W0.heap.size=w.heap.size+2:=by rw [hW0];simp
 have hq0:FrmBox W0 w.heap.size (.mk 3 name n [t,u] binds l) fa:=by rw [hW0];unfold FrmBox;rw [heap_get,if_neg (by simp),heap_get,if_pos rfl]
 have hq1:W0.heap[w.heap.size+1]?=some (.cells #[.int .i64 0,.int .i64 0,.int .i64 0,.slice none 0 0] 39 (0,0)):=by rw [hW0,heap_get,if_pos (by simp)]
 have hmk0:MkB W0 mb s x left:=(hb0.block mb hmlt).trans hm
 have HB:=Lh (aI hb0 (aI hq0 (aI hq1 hz0)))
 have HW0:=Lh hW0
 have HM:=Lh (aI hm hl)
 have HX:=Lh (aI h0 (aI hmb0 (aI hx (aI hz (aI hf (aI hel hs))))))
 have HPL:=Lh (fun (t:Trm) (W:World) (hz:SlIn W (·<W.heap.size) (env.map Ev.toD) z)=>place_any env z t W hz (by omega))
 have HWK:=Lh (fun (i j:Int) (W:World)=>wat_any s x i j W hf.lessons hf.slots hf.rooms)
 obtain ⟨c0,c1,c2,c3,c4,c5⟩:=hq0.cells
 clear hb0 hq0 hq1 hW0 hm hl hz0 h0 hmb0 hx hz hel hs hf
 simp only [ndV,FrmA.cells,SlA.val,Frm.kind,Frm.name,Frm.n,Frm.terms,Frm.binds,Frm.l,List.length_cons,List.length_nil,Nat.zero_add,Nat.reduceAdd] at HW0 c0 c1 c2 c3 c4 c5 ⊢
 go_enter Tryz.func38,Tryz.ntmps38
 go_wp2_with fail
 rw [<- HW0.out]
 go_wp2_with fail
 refine (part_any 1 none 0 0 s x left mb W0 hmk0 HM.out.2).mono ?_
 rintro e w2 ⟨hm2,⟨hp,rfl,hmk2⟩ | ⟨hp,rfl,hmk2⟩⟩
 rotate_left
 ·refine ⟨rfl,(Chalk.Mod.of_below (S:=fun k=>k=mb) HB.out.1).trans hm2 (fun _ _ h=>h),.inr ⟨?_,rfl,_,hmk2⟩⟩
  simp only [Tr.size_mk,sizes];omega
 clear c0 c1 c2 c3 c4 c5
 have hz2:=hm2.size
 have hz0:=HB.out.2.2.2
 have hz02:w.heap.size+2<=w2.heap.size:=by omega
 obtain ⟨WA,hWA⟩:∃ WA,WA=w2.alloc (.cells #[.int .i64 1,.int .i64 0,.int .i64 0,.slice none 0 0] 39):=⟨_,rfl⟩
 have hbA:Below w2.heap.size w2 WA:=by rw [hWA];exact (Below.refl _ _).alloc (Nat.le_refl _) _
 have hzA:WA.heap.size=w2.heap.size+1:=by rw [hWA];simp
 have hkA:WA.heap[w2.heap.size]?=some (.cells #[.int .i64 1,.int .i64 0,.int .i64 0,.slice none 0 0] 39 (0,0)):=by rw [hWA,heap_get,if_pos rfl]
 have q2:FrmBox w2 w.heap.size (.mk 3 name n [t,u] binds l) fa:=heap_kept HB.out.2.1 hm2 (by omega)
 have qA:FrmBox WA w.heap.size (.mk 3 name n [t,u] binds l) fa:=(hbA.block _ (by omega)).trans q2
 have r2:=heap_kept HB.out.2.2.1 hm2 (by omega)
 have rA:=(hbA.block _ (by omega)).trans r2
 have hmkA:MkB WA mb s x ((left:Int) - 1):=(hbA.block mb (by omega)).trans hmk2
 have hmw:Chalk.Mod (fun k=>k=mb) w WA:=((Chalk.Mod.of_below (S:=fun k=>k=mb) HB.out.1).trans hm2 (fun _ _ h=>h)).trans (Chalk.Mod.of_below (S:=fun k=>k=mb) hbA) (fun _ _ h=>h)
 have hb0A:Below w0.heap.size w0 WA:=HX.out.1.trans (hmw.below HX.out.1.size (fun k hk=>by have:=HX.out.2.1;omega))
 have hzwA:SlIn WA (·<WA.heap.size) (env.map Ev.toD) z:=(HX.out.2.2.2.1.agree (hmw.agree (fun k hk=>hk))).mono (fun k hk=>by have:=hk.1;omega)
 have HA:=Lh (aI hbA (aI hzA (aI hkA (aI qA (aI rA (aI hmkA (aI hmw (aI hb0A (aI hzwA hp)))))))))
 have hWA':w2.alloc (.cells #[.int .i64 1,.int .i64 0,.int .i64 0,.slice none 0 0] 39)=WA:=hWA.symm
 obtain ⟨c0,c1,c2,c3,c4,c5⟩:=q2.cells
 simp only [Frm.kind,Frm.terms] at c0 c3
 clear c1 c2 c4 c5 hbA hzA hkA q2 qA r2 rA hmkA hmw hb0A hzwA hp hm2 hmk2 hz2 hmk0 hWA
 have hwlt:w.heap.size<w2.heap.size:=by omega
 have HWA:=Lh hWA'
 clear hWA'
 go_wp2_with fail
 rw [HWA.out]
 obtain ⟨q1,_,_,q4,q5⟩:=HX.out.2.2.1.terms.flat Trm.flatT
 simp only [Frm.terms] at q1 q4 q5
 obtain ⟨hta,htb⟩:=q1 (by simp)
 obtain ⟨t0,t1,t2⟩:=q4.three 0 (by simp) rfl
 obtain ⟨u0,u1,u2⟩:=q4.three 1 (by simp) rfl
 simp only [List.getElem_cons_zero,List.getElem_cons_succ,Nat.zero_mul,Nat.add_zero,Nat.one_mul] at t0 t1 t2 u0 u1 u2
 have HKS:Hid (∀ w',Chalk.Mod (fun k=>k=w2.heap.size) WA w'->w'.cell? ⟨mb,0,none⟩=some (.slice x.slots.a s.slots.length x.slots.cap)/\w'.cell? ⟨mb,1,none⟩=some (.slice x.rooms.a s.rooms.length x.rooms.cap)/\w'.cell? ⟨mb,2,none⟩=some (.slice x.people.a s.people.length x.people.cap)/\w'.cell? ⟨mb,3,none⟩=some (.slice x.groups.a s.groups.length x.groups.cap)/\w'.cell? ⟨mb,4,none⟩=some (.slice x.lessons.a s.lessons.length x.lessons.cap)/\w'.cell? ⟨w.heap.size,3,none⟩=some (.slice (some ⟨fa.t.b,fa.t.o,none⟩) 2 fa.t.cap)/\w'.cell? ⟨fa.t.b,fa.t.o,none⟩=some (.int .i64 t.kind)/\w'.cell? ⟨fa.t.b,fa.t.o+1,none⟩=some (.string ⟨t.name.toArray⟩)/\w'.cell? ⟨fa.t.b,fa.t.o+2,none⟩=some (.int .i64 t.n)/\w'.cell? ⟨fa.t.b,fa.t.o+3,none⟩=some (.int .i64 u.kind)/\w'.cell? ⟨fa.t.b,fa.t.o+4,none⟩=some (.string ⟨u.name.toArray⟩)/\w'.cell? ⟨fa.t.b,fa.t.o+5,none⟩=some (.int .i64 u.n)):=Lh (fun w' hW=>by
  obtain ⟨m0,m1,m2,m3,m4,_,_⟩:=MkB.cells (heap_kept HA.out.2.2.2.2.2.1 hW (by omega))
  have g3:=(FrmBox.cells (heap_kept HA.out.2.2.2.1 hW (by omega))).2.2.2.1
  simp only [Frm.terms,SlA.val,hta] at g3
  have hb:=HA.out.2.2.2.2.2.2.2.1.trans (hW.below HA.out.2.2.2.2.2.2.2.1.size (fun k hk=>by have:=HX.out.1.size;omega))
  have hc:∀ j v,w0.cell? ⟨fa.t.b,j,none⟩=some v->w'.cell? ⟨fa.t.b,j,none⟩=some v:=fun j v hv=>(hb.cell (p:=⟨fa.t.b,j,none⟩) htb).trans hv
  exact ⟨m0,m1,m2,m3,m4,g3,hc _ _ t0,hc _ _ t1,hc _ _ t2,hc _ _ u0,hc _ _ u1,hc _ _ u2⟩)
 clear q1 q4 q5 htb t0 t1 t2 u0 u1 u2 hta
 have hWAl:w2.heap.size<WA.heap.size:=by have:=HA.out.2.1;omega
 refine wp_region_U 20 (S:=fun w'=>w'.cell? ⟨mb,0,none⟩=some (.slice x.slots.a s.slots.length x.slots.cap)/\w'.cell? ⟨mb,1,none⟩=some (.slice x.rooms.a s.rooms.length x.rooms.cap)/\w'.cell? ⟨mb,2,none⟩=some (.slice x.people.a s.people.length x.people.cap)/\w'.cell? ⟨mb,3,none⟩=some (.slice x.groups.a s.groups.length x.groups.cap)/\w'.cell? ⟨mb,4,none⟩=some (.slice x.lessons.a s.lessons.length x.lessons.cap)/\w'.cell? ⟨w.heap.size,3,none⟩=some (.slice (some ⟨fa.t.b,fa.t.o,none⟩) 2 fa.t.cap)/\w'.cell? ⟨fa.t.b,fa.t.o,none⟩=some (.int .i64 t.kind)/\w'.cell? ⟨fa.t.b,fa.t.o+1,none⟩=some (.string ⟨t.name.toArray⟩)/\w'.cell? ⟨fa.t.b,fa.t.o+2,none⟩=some (.int .i64 t.n)/\w'.cell? ⟨fa.t.b,fa.t.o+3,none⟩=some (.int .i64 u.kind)/\w'.cell? ⟨fa.t.b,fa.t.o+4,none⟩=some (.string ⟨u.name.toArray⟩)/\w'.cell? ⟨fa.t.b,fa.t.o+5,none⟩=some (.int .i64 u.n)) (by kernel_rfl) (HKS.out _ (Chalk.Mod.refl _ _).drew) (fun hHeld=>?_)
 refine tkU (i:=0) rfl hHeld ?_
 try simp only [Act.put,ub1,ub2,ub3]
 refine tkU (i:=1) rfl hHeld ?_
 try simp only [Act.put,ub1,ub2,ub3]
 refine tkU (i:=2) rfl hHeld ?_
 try simp only [Act.put,ub1,ub2,ub3]
 refine tkU (i:=3) rfl hHeld ?_
 try simp only [Act.put,ub1,ub2,ub3]
 refine tkU (i:=4) rfl hHeld ?_
 try simp only [Act.put,ub1,ub2,ub3]
 refine tkU (i:=5) rfl hHeld ?_
 try simp only [Act.put,ub1,ub2,ub3]
 refine tkU (i:=6) rfl hHeld ?_
 try simp only [Act.put,ub1,ub2,ub3]
 refine tkU (i:=7) rfl hHeld ?_
 try simp only [Act.put,ub1,ub2,ub3]
 refine tkU (i:=8) rfl hHeld ?_
 try simp only [Act.put,ub1,ub2,ub3]
 refine tkU (i:=10) rfl hHeld ?_
 try simp only [Act.put,ub1,ub2,ub3]
 refine tkU (i:=11) rfl hHeld ?_
 try simp only [Act.put,ub1,ub2,ub3]
 refine tkU (i:=12) rfl hHeld ?_
 try simp only [Act.put,ub1,ub2,ub3]
 refine tkU (i:=13) rfl hHeld ?_
 try simp only [Act.put,ub1,ub2,ub3]
 refine tkU (i:=14) rfl hHeld ?_
 try simp only [Act.put,ub1,ub2,ub3]
 refine tkU (i:=17) rfl hHeld ?_
 try simp only [Act.put,ub1,ub2,ub3]
 refine ready_U (rs:=[9]) (by kernel_rfl) (by simp) ?_
 refine cons_U rfl (fun K hK=>?_) nil_U
 go_simp
 go_at_call 82
 refine (HPL.out t WA.drew (HA.out.2.2.2.2.2.2.2.2.1.later (Below.refl _ _).drew (Nat.le_refl _))).mono ?_
 rintro e w3 ⟨rfl,hb⟩
 have Hw3:=Lh (Below.trans (Below.refl WA.heap.size WA).drew (hb.mono (Nat.le_refl _)))
 clear hb
 go_simp
 refine hK.out _ _ ?_ (fun hHeld2=>?_)
 ·exact HKS.out _ (Chalk.Mod.of_below Hw3.out)
 clear hK K hHeld
 have hHeld:=hHeld2
 clear hHeld2
 try simp only [Act.put,ub1,ub2,ub3]
 refine ready_U (rs:=[15]) (by kernel_rfl) (by simp) ?_
 refine cons_U rfl (fun K hK=>?_) nil_U
 go_simp
 go_at_call 82
 refine (HPL.out u w3 (HA.out.2.2.2.2.2.2.2.2.1.later Hw3.out Hw3.out.size)).mono ?_
 rintro e w4 ⟨rfl,hb⟩
 have Hw4:=Lh (Hw3.out.trans (hb.mono Hw3.out.size))
 clear hb
 go_simp
 refine hK.out _ _ ?_ (fun hHeld2=>?_)
 ·exact HKS.out _ (Chalk.Mod.of_below Hw4.out)
 clear hK K hHeld
 have hHeld:=hHeld2
 clear hHeld2
 try simp only [Act.put,ub1,ub2,ub3]
 refine ready_U (rs:=[16]) (by kernel_rfl) (by simp) ?_
 refine cons_U rfl (fun K hK=>?_) nil_U
 go_simp
 go_at_call 44
 refine (HWK.out _ _ w4).mono ?_
 rintro e w5 ⟨rfl,hb⟩
 have Hw5:=Lh (Hw4.out.trans (hb.mono Hw4.out.size))
 clear hb
 have k5:=(Hw5.out.block w2.heap.size hWAl).trans HA.out.2.2.1
 have x0:w5.cell? ⟨w2.heap.size,0,none⟩=some (.int .i64 1):=cH k5 rfl
 have x1:w5.cell? ⟨w2.heap.size,1,none⟩=some (.int .i64 0):=cH k5 rfl
 have x2:w5.cell? ⟨w2.heap.size,2,none⟩=some (.int .i64 0):=cH k5 rfl
 have x3:w5.cell? ⟨w2.heap.size,3,none⟩=some (.slice none 0 0):=cH k5 rfl
 have f0:w5.frozen? ⟨w2.heap.size,0,none⟩=false:=fH k5
 have f1:w5.frozen? ⟨w2.heap.size,1,none⟩=false:=fH k5
 have f2:w5.frozen? ⟨w2.heap.size,2,none⟩=false:=fH k5
 have f3:w5.frozen? ⟨w2.heap.size,3,none⟩=false:=fH k5
 have HK5:=Lh k5
 have hl5:=(gS k5).1
 clear k5
 go_simp
 refine hK.out _ _ ?_ (fun hHeld2=>?_)
 ·exact HKS.out _ (Chalk.Mod.of_below Hw5.out)
 clear hK K hHeld
 have hHeld:=hHeld2
 clear hHeld2
 try simp only [Act.put,ub1,ub2,ub3]
 refine ready_U (rs:=[18]) (by kernel_rfl) (by simp) ?_
 refine cons_U rfl (fun K hK=>?_) nil_U
 go_simp
 refine hK.out _ _ ?_ (fun hHeld2=>?_)
 ·exact HKS.out _ ((Chalk.Mod.of_below (S:=fun k=>k=w2.heap.size) Hw5.out).setCell (p:=⟨w2.heap.size,0,none⟩) (fun _=>rfl) _)
 clear hK K hHeld
 have hHeld:=hHeld2
 clear hHeld2
 try simp only [Act.put,ub1,ub2,ub3]
 refine tkU (i:=19) rfl hHeld ?_
 try simp only [Act.put,ub1,ub2,ub3]
 refine ready_U (rs:=[20]) (by kernel_rfl) (by simp) ?_
 refine cons_V rfl (by kernel_rfl) (fun K hK=>?_) nil_U
 go_simp
 refine hK.out _ _ ?_
 clear hK K
 try simp only [Act.put,ub1,ub2,ub3]
 refine done_U (by kernel_rfl) ?_ _
 clear hHeld
 have hwk:I64 (wkAt s (plOf env t.name) (plOf env u.name)):=wkAt_fit s _ _ HX.out.2.2.2.2.1.lessons HX.out.2.2.2.2.1.slots HX.out.2.2.2.2.1.rooms
 have HWF:=Lh hwk
 clear hwk
 generalize hgw:wkAt s (plOf env t.name) (plOf env u.name)=wk at HWF ⊢
 have HGW:=Lh hgw
 clear hgw
 have k6:=box_store (i:=1) (.int .i64 wk) (box_store (i:=0) (.int .i64 2) HK5.out)
 have hm6:Chalk.Mod (fun k=>k=w2.heap.size) WA ((w5.setCell ⟨w2.heap.size,0,none⟩ (.int .i64 2)).setCell ⟨w2.heap.size,1,none⟩ (.int .i64 wk)):=((Chalk.Mod.of_below (S:=fun k=>k=w2.heap.size) Hw5.out).setCell (p:=⟨w2.heap.size,0,none⟩) (fun _=>rfl) _).setCell (p:=⟨w2.heap.size,1,none⟩) (fun _=>rfl) _
 generalize (w5.setCell ⟨w2.heap.size,0,none⟩ (.int .i64 2)).setCell ⟨w2.heap.size,1,none⟩ (.int .i64 wk)=w6 at k6 hm6 ⊢
 have q6:=heap_kept HA.out.2.2.2.2.1 hm6 (by omega)
 clear x0 x1 x2 x3 f0 f1 f2 f3 hl5
 have v0:w6.cell? ⟨w2.heap.size,0,none⟩=some (.int .i64 2):=cH k6 rfl
 have v1:w6.cell? ⟨w2.heap.size,1,none⟩=some (.int .i64 wk):=cH k6 rfl
 have v2:w6.cell? ⟨w2.heap.size,2,none⟩=some (.int .i64 0):=cH k6 rfl
 have v3:w6.cell? ⟨w2.heap.size,3,none⟩=some (.slice none 0 0):=cH k6 rfl
 have HM6:=Lh (aI hm6 k6)
 have HQ6:=Lh q6
 have hlw6:w.heap.size+1<w6.heap.size:=(gS q6).1
 clear hm6 k6
 have x0:w6.cell? ⟨w.heap.size+1,0,none⟩=some (.int .i64 0):=cH q6 rfl
 have f0:w6.frozen? ⟨w.heap.size+1,0,none⟩=false:=fH q6
 have x1:w6.cell? ⟨w.heap.size+1,1,none⟩=some (.int .i64 0):=cH q6 rfl
 have f1:w6.frozen? ⟨w.heap.size+1,1,none⟩=false:=fH q6
 have x2:w6.cell? ⟨w.heap.size+1,2,none⟩=some (.int .i64 0):=cH q6 rfl
 have f2:w6.frozen? ⟨w.heap.size+1,2,none⟩=false:=fH q6
 have x3:w6.cell? ⟨w.heap.size+1,3,none⟩=some (.slice none 0 0):=cH q6 rfl
 have f3:w6.frozen? ⟨w.heap.size+1,3,none⟩=false:=fH q6
 clear q6
 go_wp2_with fail
 have hq3:=put4_heap HQ6.out (.int .i64 2) (.int .i64 wk) (.int .i64 0) (.slice none 0 0)
 have hm3:=put4_mod w6 (w.heap.size+1) 0 (.int .i64 2) (.int .i64 wk) (.int .i64 0) (.slice none 0 0)
 unfold put4 at hq3 hm3
 simp only [Nat.zero_add] at hq3 hm3
 generalize (((w6.setCell _ _).setCell _ _).setCell _ _).setCell _ _=W3 at hq3 hm3 ⊢
 have HY:=Lh (aI hq3 hm3)
 have y0:W3.cell? ⟨w.heap.size+1,0,none⟩=some (.int .i64 2):=cH hq3 rfl
 have y1:W3.cell? ⟨w.heap.size+1,1,none⟩=some (.int .i64 wk):=cH hq3 rfl
 have y2:W3.cell? ⟨w.heap.size+1,2,none⟩=some (.int .i64 0):=cH hq3 rfl
 have y3:W3.cell? ⟨w.heap.size+1,3,none⟩=some (.slice none 0 0):=cH hq3 rfl
 clear hq3 hm3
 refine bodyPost_ret (v:=.agg #[.int .i64 2,.int .i64 wk,.int .i64 0,.slice none 0 0]) (by simp [results,Tryz.results38,go_sem,y0,y1,y2,y3]) rfl ?_
 have hmW:Chalk.Mod (fun k=>k=mb) w W3:=HA.out.2.2.2.2.2.2.1.trans (((HM6.out.1.mono (T:=fun k=>k=w2.heap.size∨k=w.heap.size+1) (fun _ h=>.inl h)).trans HY.out.2 (fun _ _ h=>.inr h))) (fun k hk h=>by omega)
 have hp:=HA.out.2.2.2.2.2.2.2.2.2
 have hcl:DAt W3 (fun k=>w.heap.size<=k/\k<W3.heap.size) (Tr.mk 2 wk 0 []).toD [.int .i64 2,.int .i64 wk,.int .i64 0,.slice none 0 0]:=Tr.close (u:=⟨none,0,0,0⟩) (i64_small (by decide) (by decide)) HWF.out (i64_small (by decide) (by decide)) (SlIn.nil (Nat.zero_le _) _ _ _)
 have hsz:(Tr.mk 2 wk 0 []).size=1:=by simp only [Tr.size_mk,sizes]
 rw [HGW.out]
 refine ⟨hmW,.inl ⟨by omega,⟨_,rfl,hcl⟩,?_⟩⟩
 rw [hsz]
 exact (HA.out.2.2.2.2.2.1.kept HM6.out.1 (by omega)).kept HY.out.2 (by omega)

theorem gin_any (t u:Trm) (n:Int) (name:Bs) (binds:List Bnd) (l:List Frm) (fa:FrmA) (env:List Ev) (z:SlA) (s:Schl) (x:SchA) (w0 w:World) (mb left:Nat) (hf:SchFit s) (h0:Below w0.heap.size w0 w) (hmb0:w0.heap.size<=mb) (hs:SchIn w0 (·<w0.heap.size) s x) (hx:FrmIn w0 (·<w0.heap.size) (.mk 4 name n [t,u] binds l) fa) (hz:SlIn w (Off mb w) (env.map Ev.toD) z) (hel:env.length<=1500000) (hm:MkB w mb s x left) (hl:left<=65536) :
  Calls Tryz.prog 38 #[.pointer (some ⟨mb,0,none⟩),.slice z.a env.length z.cap,ndV (.mk 4 name n [t,u] binds l,fa)] w (TreeP s x mb left w (.mk 2 (wkIn s (plOf env t.name) (plOf env u.name)) 0 [])):=by
 have hmlt:=hm.lt
 obtain ⟨W0,hW0⟩:∃ W0,W0=(w.alloc (.cells (fa.cells (.mk 4 name n [t,u] binds l)).toArray 34)).alloc (.cells #[.int .i64 0,.int .i64 0,.int .i64 0,.slice none 0 0] 39):=⟨_,rfl⟩
 have hb0:Below w.heap.size w W0:=by rw [hW0];exact ((Below.refl _ _).alloc (Nat.le_refl _) _).alloc (by simp) _
 have hz0:W0.heap.size=w.heap.size+2:=by rw [hW0];simp
 have hq0:FrmBox W0 w.heap.size (.mk 4 name n [t,u] binds l) fa:=by rw [hW0];unfold FrmBox;rw [heap_get,if_neg (by simp),heap_get,if_pos rfl]
 have hq1:W0.heap[w.heap.size+1]?=some (.cells #[.int .i64 0,.int .i64 0,.int .i64 0,.slice none 0 0] 39 (0,0)):=by rw [hW0,heap_get,if_pos (by simp)]
 have hmk0:MkB W0 mb s x left:=(hb0.block mb hmlt).trans hm
 have HB:=Lh (aI hb0 (aI hq0 (aI hq1 hz0)))
 have HW0:=Lh hW0
 have HM:=Lh (aI hm hl)
 have HX:=Lh (aI h0 (aI hmb0 (aI hx (aI hz (aI hf (aI hel hs))))))
 have HPL:=Lh (fun (t:Trm) (W:World) (hz:SlIn W (·<W.heap.size) (env.map Ev.toD) z)=>place_any env z t W hz (by omega))
 have HWK:=Lh (fun (i j:Int) (W:World)=>win_any s x i j W hf.lessons hf.slots hf.rooms)
 obtain ⟨c0,c1,c2,c3,c4,c5⟩:=hq0.cells
 clear hb0 hq0 hq1 hW0 hm hl hz0 h0 hmb0 hx hz hel hs hf
 simp only [ndV,FrmA.cells,SlA.val,Frm.kind,Frm.name,Frm.n,Frm.terms,Frm.binds,Frm.l,List.length_cons,List.length_nil,Nat.zero_add,Nat.reduceAdd] at HW0 c0 c1 c2 c3 c4 c5 ⊢
 go_enter Tryz.func38,Tryz.ntmps38
 go_wp2_with fail
 rw [<- HW0.out]
 go_wp2_with fail
 refine (part_any 1 none 0 0 s x left mb W0 hmk0 HM.out.2).mono ?_
 rintro e w2 ⟨hm2,⟨hp,rfl,hmk2⟩ | ⟨hp,rfl,hmk2⟩⟩
 rotate_left
 ·refine ⟨rfl,(Chalk.Mod.of_below (S:=fun k=>k=mb) HB.out.1).trans hm2 (fun _ _ h=>h),.inr ⟨?_,rfl,_,hmk2⟩⟩
  simp only [Tr.size_mk,sizes];omega
 clear c0 c1 c2 c3 c4 c5
 have hz2:=hm2.size
 have hz0:=HB.out.2.2.2
 have hz02:w.heap.size+2<=w2.heap.size:=by omega
 obtain ⟨WA,hWA⟩:∃ WA,WA=w2.alloc (.cells #[.int .i64 1,.int .i64 0,.int .i64 0,.slice none 0 0] 39):=⟨_,rfl⟩
 have hbA:Below w2.heap.size w2 WA:=by rw [hWA];exact (Below.refl _ _).alloc (Nat.le_refl _) _
 have hzA:WA.heap.size=w2.heap.size+1:=by rw [hWA];simp
 have hkA:WA.heap[w2.heap.size]?=some (.cells #[.int .i64 1,.int .i64 0,.int .i64 0,.slice none 0 0] 39 (0,0)):=by rw [hWA,heap_get,if_pos rfl]
 have q2:FrmBox w2 w.heap.size (.mk 4 name n [t,u] binds l) fa:=heap_kept HB.out.2.1 hm2 (by omega)
 have qA:FrmBox WA w.heap.size (.mk 4 name n [t,u] binds l) fa:=(hbA.block _ (by omega)).trans q2
 have r2:=heap_kept HB.out.2.2.1 hm2 (by omega)
 have rA:=(hbA.block _ (by omega)).trans r2
 have hmkA:MkB WA mb s x ((left:Int) - 1):=(hbA.block mb (by omega)).trans hmk2
 have hmw:Chalk.Mod (fun k=>k=mb) w WA:=((Chalk.Mod.of_below (S:=fun k=>k=mb) HB.out.1).trans hm2 (fun _ _ h=>h)).trans (Chalk.Mod.of_below (S:=fun k=>k=mb) hbA) (fun _ _ h=>h)
 have hb0A:Below w0.heap.size w0 WA:=HX.out.1.trans (hmw.below HX.out.1.size (fun k hk=>by have:=HX.out.2.1;omega))
 have hzwA:SlIn WA (·<WA.heap.size) (env.map Ev.toD) z:=(HX.out.2.2.2.1.agree (hmw.agree (fun k hk=>hk))).mono (fun k hk=>by have:=hk.1;omega)
 have HA:=Lh (aI hbA (aI hzA (aI hkA (aI qA (aI rA (aI hmkA (aI hmw (aI hb0A (aI hzwA hp)))))))))
 have hWA':w2.alloc (.cells #[.int .i64 1,.int .i64 0,.int .i64 0,.slice none 0 0] 39)=WA:=hWA.symm
 obtain ⟨c0,c1,c2,c3,c4,c5⟩:=q2.cells
 simp only [Frm.kind,Frm.terms] at c0 c3
 clear c1 c2 c4 c5 hbA hzA hkA q2 qA r2 rA hmkA hmw hb0A hzwA hp hm2 hmk2 hz2 hmk0 hWA
 have hwlt:w.heap.size<w2.heap.size:=by omega
 have HWA:=Lh hWA'
 clear hWA'
 go_wp2_with fail
 rw [HWA.out]
 obtain ⟨q1,_,_,q4,q5⟩:=HX.out.2.2.1.terms.flat Trm.flatT
 simp only [Frm.terms] at q1 q4 q5
 obtain ⟨hta,htb⟩:=q1 (by simp)
 obtain ⟨t0,t1,t2⟩:=q4.three 0 (by simp) rfl
 obtain ⟨u0,u1,u2⟩:=q4.three 1 (by simp) rfl
 simp only [List.getElem_cons_zero,List.getElem_cons_succ,Nat.zero_mul,Nat.add_zero,Nat.one_mul] at t0 t1 t2 u0 u1 u2
 have HKS:Hid (∀ w',Chalk.Mod (fun k=>k=w2.heap.size) WA w'->w'.cell? ⟨mb,0,none⟩=some (.slice x.slots.a s.slots.length x.slots.cap)/\w'.cell? ⟨mb,1,none⟩=some (.slice x.rooms.a s.rooms.length x.rooms.cap)/\w'.cell? ⟨mb,2,none⟩=some (.slice x.people.a s.people.length x.people.cap)/\w'.cell? ⟨mb,3,none⟩=some (.slice x.groups.a s.groups.length x.groups.cap)/\w'.cell? ⟨mb,4,none⟩=some (.slice x.lessons.a s.lessons.length x.lessons.cap)/\w'.cell? ⟨w.heap.size,3,none⟩=some (.slice (some ⟨fa.t.b,fa.t.o,none⟩) 2 fa.t.cap)/\w'.cell? ⟨fa.t.b,fa.t.o,none⟩=some (.int .i64 t.kind)/\w'.cell? ⟨fa.t.b,fa.t.o+1,none⟩=some (.string ⟨t.name.toArray⟩)/\w'.cell? ⟨fa.t.b,fa.t.o+2,none⟩=some (.int .i64 t.n)/\w'.cell? ⟨fa.t.b,fa.t.o+3,none⟩=some (.int .i64 u.kind)/\w'.cell? ⟨fa.t.b,fa.t.o+4,none⟩=some (.string ⟨u.name.toArray⟩)/\w'.cell? ⟨fa.t.b,fa.t.o+5,none⟩=some (.int .i64 u.n)):=Lh (fun w' hW=>by
  obtain ⟨m0,m1,m2,m3,m4,_,_⟩:=MkB.cells (heap_kept HA.out.2.2.2.2.2.1 hW (by omega))
  have g3:=(FrmBox.cells (heap_kept HA.out.2.2.2.1 hW (by omega))).2.2.2.1
  simp only [Frm.terms,SlA.val,hta] at g3
  have hb:=HA.out.2.2.2.2.2.2.2.1.trans (hW.below HA.out.2.2.2.2.2.2.2.1.size (fun k hk=>by have:=HX.out.1.size;omega))
  have hc:∀ j v,w0.cell? ⟨fa.t.b,j,none⟩=some v->w'.cell? ⟨fa.t.b,j,none⟩=some v:=fun j v hv=>(hb.cell (p:=⟨fa.t.b,j,none⟩) htb).trans hv
  exact ⟨m0,m1,m2,m3,m4,g3,hc _ _ t0,hc _ _ t1,hc _ _ t2,hc _ _ u0,hc _ _ u1,hc _ _ u2⟩)
 clear q1 q4 q5 htb t0 t1 t2 u0 u1 u2 hta
 have hWAl:w2.heap.size<WA.heap.size:=by have:=HA.out.2.1;omega
 refine wp_region_U 20 (S:=fun w'=>w'.cell? ⟨mb,0,none⟩=some (.slice x.slots.a s.slots.length x.slots.cap)/\w'.cell? ⟨mb,1,none⟩=some (.slice x.rooms.a s.rooms.length x.rooms.cap)/\w'.cell? ⟨mb,2,none⟩=some (.slice x.people.a s.people.length x.people.cap)/\w'.cell? ⟨mb,3,none⟩=some (.slice x.groups.a s.groups.length x.groups.cap)/\w'.cell? ⟨mb,4,none⟩=some (.slice x.lessons.a s.lessons.length x.lessons.cap)/\w'.cell? ⟨w.heap.size,3,none⟩=some (.slice (some ⟨fa.t.b,fa.t.o,none⟩) 2 fa.t.cap)/\w'.cell? ⟨fa.t.b,fa.t.o,none⟩=some (.int .i64 t.kind)/\w'.cell? ⟨fa.t.b,fa.t.o+1,none⟩=some (.string ⟨t.name.toArray⟩)/\w'.cell? ⟨fa.t.b,fa.t.o+2,none⟩=some (.int .i64 t.n)/\w'.cell? ⟨fa.t.b,fa.t.o+3,none⟩=some (.int .i64 u.kind)/\w'.cell? ⟨fa.t.b,fa.t.o+4,none⟩=some (.string ⟨u.name.toArray⟩)/\w'.cell? ⟨fa.t.b,fa.t.o+5,none⟩=some (.int .i64 u.n)) (by kernel_rfl) (HKS.out _ (Chalk.Mod.refl _ _).drew) (fun hHeld=>?_)
 refine tkU (i:=0) rfl hHeld ?_
 try simp only [Act.put,ub1,ub2,ub3]
 refine tkU (i:=1) rfl hHeld ?_
 try simp only [Act.put,ub1,ub2,ub3]
 refine tkU (i:=2) rfl hHeld ?_
 try simp only [Act.put,ub1,ub2,ub3]
 refine tkU (i:=3) rfl hHeld ?_
 try simp only [Act.put,ub1,ub2,ub3]
 refine tkU (i:=4) rfl hHeld ?_
 try simp only [Act.put,ub1,ub2,ub3]
 refine tkU (i:=5) rfl hHeld ?_
 try simp only [Act.put,ub1,ub2,ub3]
 refine tkU (i:=6) rfl hHeld ?_
 try simp only [Act.put,ub1,ub2,ub3]
 refine tkU (i:=7) rfl hHeld ?_
 try simp only [Act.put,ub1,ub2,ub3]
 refine tkU (i:=8) rfl hHeld ?_
 try simp only [Act.put,ub1,ub2,ub3]
 refine tkU (i:=10) rfl hHeld ?_
 try simp only [Act.put,ub1,ub2,ub3]
 refine tkU (i:=11) rfl hHeld ?_
 try simp only [Act.put,ub1,ub2,ub3]
 refine tkU (i:=12) rfl hHeld ?_
 try simp only [Act.put,ub1,ub2,ub3]
 refine tkU (i:=13) rfl hHeld ?_
 try simp only [Act.put,ub1,ub2,ub3]
 refine tkU (i:=14) rfl hHeld ?_
 try simp only [Act.put,ub1,ub2,ub3]
 refine tkU (i:=17) rfl hHeld ?_
 try simp only [Act.put,ub1,ub2,ub3]
 refine ready_U (rs:=[9]) (by kernel_rfl) (by simp) ?_
 refine cons_U rfl (fun K hK=>?_) nil_U
 go_simp
 go_at_call 82
 refine (HPL.out t WA.drew (HA.out.2.2.2.2.2.2.2.2.1.later (Below.refl _ _).drew (Nat.le_refl _))).mono ?_
 rintro e w3 ⟨rfl,hb⟩
 have Hw3:=Lh (Below.trans (Below.refl WA.heap.size WA).drew (hb.mono (Nat.le_refl _)))
 clear hb
 go_simp
 refine hK.out _ _ ?_ (fun hHeld2=>?_)
 ·exact HKS.out _ (Chalk.Mod.of_below Hw3.out)
 clear hK K hHeld
 have hHeld:=hHeld2
 clear hHeld2
 try simp only [Act.put,ub1,ub2,ub3]
 refine ready_U (rs:=[15]) (by kernel_rfl) (by simp) ?_
 refine cons_U rfl (fun K hK=>?_) nil_U
 go_simp
 go_at_call 82
 refine (HPL.out u w3 (HA.out.2.2.2.2.2.2.2.2.1.later Hw3.out Hw3.out.size)).mono ?_
 rintro e w4 ⟨rfl,hb⟩
 have Hw4:=Lh (Hw3.out.trans (hb.mono Hw3.out.size))
 clear hb
 go_simp
 refine hK.out _ _ ?_ (fun hHeld2=>?_)
 ·exact HKS.out _ (Chalk.Mod.of_below Hw4.out)
 clear hK K hHeld
 have hHeld:=hHeld2
 clear hHeld2
 try simp only [Act.put,ub1,ub2,ub3]
 refine ready_U (rs:=[16]) (by kernel_rfl) (by simp) ?_
 refine cons_U rfl (fun K hK=>?_) nil_U
 go_simp
 go_at_call 46
 refine (HWK.out _ _ w4).mono ?_
 rintro e w5 ⟨rfl,hb⟩
 have Hw5:=Lh (Hw4.out.trans (hb.mono Hw4.out.size))
 clear hb
 have k5:=(Hw5.out.block w2.heap.size hWAl).trans HA.out.2.2.1
 have x0:w5.cell? ⟨w2.heap.size,0,none⟩=some (.int .i64 1):=cH k5 rfl
 have x1:w5.cell? ⟨w2.heap.size,1,none⟩=some (.int .i64 0):=cH k5 rfl
 have x2:w5.cell? ⟨w2.heap.size,2,none⟩=some (.int .i64 0):=cH k5 rfl
 have x3:w5.cell? ⟨w2.heap.size,3,none⟩=some (.slice none 0 0):=cH k5 rfl
 have f0:w5.frozen? ⟨w2.heap.size,0,none⟩=false:=fH k5
 have f1:w5.frozen? ⟨w2.heap.size,1,none⟩=false:=fH k5
 have f2:w5.frozen? ⟨w2.heap.size,2,none⟩=false:=fH k5
 have f3:w5.frozen? ⟨w2.heap.size,3,none⟩=false:=fH k5
 have HK5:=Lh k5
 have hl5:=(gS k5).1
 clear k5
 go_simp
 refine hK.out _ _ ?_ (fun hHeld2=>?_)
 ·exact HKS.out _ (Chalk.Mod.of_below Hw5.out)
 clear hK K hHeld
 have hHeld:=hHeld2
 clear hHeld2
 try simp only [Act.put,ub1,ub2,ub3]
 refine ready_U (rs:=[18]) (by kernel_rfl) (by simp) ?_
 refine cons_U rfl (fun K hK=>?_) nil_U
 go_simp
 refine hK.out _ _ ?_ (fun hHeld2=>?_)
 ·exact HKS.out _ ((Chalk.Mod.of_below (S:=fun k=>k=w2.heap.size) Hw5.out).setCell (p:=⟨w2.heap.size,0,none⟩) (fun _=>rfl) _)
 clear hK K hHeld
 have hHeld:=hHeld2
 clear hHeld2
 try simp only [Act.put,ub1,ub2,ub3]
 refine tkU (i:=19) rfl hHeld ?_
 try simp only [Act.put,ub1,ub2,ub3]
 refine ready_U (rs:=[20]) (by kernel_rfl) (by simp) ?_
 refine cons_V rfl (by kernel_rfl) (fun K hK=>?_) nil_U
 go_simp
 refine hK.out _ _ ?_
 clear hK K
 try simp only [Act.put,ub1,ub2,ub3]
 refine done_U (by kernel_rfl) ?_ _
 clear hHeld
 have hwk:I64 (wkIn s (plOf env t.name) (plOf env u.name)):=wkIn_fit s _ _ HX.out.2.2.2.2.1.lessons HX.out.2.2.2.2.1.slots HX.out.2.2.2.2.1.rooms
 have HWF:=Lh hwk
 clear hwk
 generalize hgw:wkIn s (plOf env t.name) (plOf env u.name)=wk at HWF ⊢
 have HGW:=Lh hgw
 clear hgw
 have k6:=box_store (i:=1) (.int .i64 wk) (box_store (i:=0) (.int .i64 2) HK5.out)
 have hm6:Chalk.Mod (fun k=>k=w2.heap.size) WA ((w5.setCell ⟨w2.heap.size,0,none⟩ (.int .i64 2)).setCell ⟨w2.heap.size,1,none⟩ (.int .i64 wk)):=((Chalk.Mod.of_below (S:=fun k=>k=w2.heap.size) Hw5.out).setCell (p:=⟨w2.heap.size,0,none⟩) (fun _=>rfl) _).setCell (p:=⟨w2.heap.size,1,none⟩) (fun _=>rfl) _
 generalize (w5.setCell ⟨w2.heap.size,0,none⟩ (.int .i64 2)).setCell ⟨w2.heap.size,1,none⟩ (.int .i64 wk)=w6 at k6 hm6 ⊢
 have q6:=heap_kept HA.out.2.2.2.2.1 hm6 (by omega)
 clear x0 x1 x2 x3 f0 f1 f2 f3 hl5
 have v0:w6.cell? ⟨w2.heap.size,0,none⟩=some (.int .i64 2):=cH k6 rfl
 have v1:w6.cell? ⟨w2.heap.size,1,none⟩=some (.int .i64 wk):=cH k6 rfl
 have v2:w6.cell? ⟨w2.heap.size,2,none⟩=some (.int .i64 0):=cH k6 rfl
 have v3:w6.cell? ⟨w2.heap.size,3,none⟩=some (.slice none 0 0):=cH k6 rfl
 have HM6:=Lh (aI hm6 k6)
 have HQ6:=Lh q6
 have hlw6:w.heap.size+1<w6.heap.size:=(gS q6).1
 clear hm6 k6
 have x0:w6.cell? ⟨w.heap.size+1,0,none⟩=some (.int .i64 0):=cH q6 rfl
 have f0:w6.frozen? ⟨w.heap.size+1,0,none⟩=false:=fH q6
 have x1:w6.cell? ⟨w.heap.size+1,1,none⟩=some (.int .i64 0):=cH q6 rfl
 have f1:w6.frozen? ⟨w.heap.size+1,1,none⟩=false:=fH q6
 have x2:w6.cell? ⟨w.heap.size+1,2,none⟩=some (.int .i64 0):=cH q6 rfl
 have f2:w6.frozen? ⟨w.heap.size+1,2,none⟩=false:=fH q6
 have x3:w6.cell? ⟨w.heap.size+1,3,none⟩=some (.slice none 0 0):=cH q6 rfl
 have f3:w6.frozen? ⟨w.heap.size+1,3,none⟩=false:=fH q6
 clear q6
 go_wp2_with fail
 have hq3:=put4_heap HQ6.out (.int .i64 2) (.int .i64 wk) (.int .i64 0) (.slice none 0 0)
 have hm3:=put4_mod w6 (w.heap.size+1) 0 (.int .i64 2) (.int .i64 wk) (.int .i64 0) (.slice none 0 0)
 unfold put4 at hq3 hm3
 simp only [Nat.zero_add] at hq3 hm3
 generalize (((w6.setCell _ _).setCell _ _).setCell _ _).setCell _ _=W3 at hq3 hm3 ⊢
 have HY:=Lh (aI hq3 hm3)
 have y0:W3.cell? ⟨w.heap.size+1,0,none⟩=some (.int .i64 2):=cH hq3 rfl
 have y1:W3.cell? ⟨w.heap.size+1,1,none⟩=some (.int .i64 wk):=cH hq3 rfl
 have y2:W3.cell? ⟨w.heap.size+1,2,none⟩=some (.int .i64 0):=cH hq3 rfl
 have y3:W3.cell? ⟨w.heap.size+1,3,none⟩=some (.slice none 0 0):=cH hq3 rfl
 clear hq3 hm3
 refine bodyPost_ret (v:=.agg #[.int .i64 2,.int .i64 wk,.int .i64 0,.slice none 0 0]) (by simp [results,Tryz.results38,go_sem,y0,y1,y2,y3]) rfl ?_
 have hmW:Chalk.Mod (fun k=>k=mb) w W3:=HA.out.2.2.2.2.2.2.1.trans (((HM6.out.1.mono (T:=fun k=>k=w2.heap.size∨k=w.heap.size+1) (fun _ h=>.inl h)).trans HY.out.2 (fun _ _ h=>.inr h))) (fun k hk h=>by omega)
 have hp:=HA.out.2.2.2.2.2.2.2.2.2
 have hcl:DAt W3 (fun k=>w.heap.size<=k/\k<W3.heap.size) (Tr.mk 2 wk 0 []).toD [.int .i64 2,.int .i64 wk,.int .i64 0,.slice none 0 0]:=Tr.close (u:=⟨none,0,0,0⟩) (i64_small (by decide) (by decide)) HWF.out (i64_small (by decide) (by decide)) (SlIn.nil (Nat.zero_le _) _ _ _)
 have hsz:(Tr.mk 2 wk 0 []).size=1:=by simp only [Tr.size_mk,sizes]
 rw [HGW.out]
 refine ⟨hmW,.inl ⟨by omega,⟨_,rfl,hcl⟩,?_⟩⟩
 rw [hsz]
 exact (HA.out.2.2.2.2.2.1.kept HM6.out.1 (by omega)).kept HY.out.2 (by omega)
end Go.Proofs.YtjjkfgjnadaheaaGreatDoor
