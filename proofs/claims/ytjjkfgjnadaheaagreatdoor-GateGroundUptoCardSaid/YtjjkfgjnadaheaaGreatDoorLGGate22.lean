/- ground.Tree and week.True: their walks. -/
import Derived.Test.YtjjkfgjnadaheaaGreatDoorLGGate21
import Derived.Test.YtjjkfgjnadaheaaGreatDoorLGGate17
set_option maxHeartbeats 4000000
set_option maxRecDepth 100000
set_option linter.unusedVariables false
set_option linter.unusedSimpArgs false
namespace Go.Proofs.YtjjkfgjnadaheaaGreatDoor
open Go.RowKit Go.Chalk
attribute [local go_sem] Oper.semAt_some
theorem wkAt_fit (s:Schl) (i j:Int) (hs1:s.lessons.length<=2000000) (hs2:s.slots.length<=2000000) (hs3:s.rooms.length<=2000000):I64 (wkAt s i j):=by
 unfold wkAt
 split
 ·rename_i h
  have:=mul_fit _ _ hs1 hs2 i h.1.1 (by omega)
  exact ⟨by omega,by omega⟩
 ·exact i64_small (by decide) (by decide)
theorem wkIn_fit (s:Schl) (i j:Int) (hs1:s.lessons.length<=2000000) (hs2:s.slots.length<=2000000) (hs3:s.rooms.length<=2000000):I64 (wkIn s i j):=by
 unfold wkIn
 split
 ·rename_i h
  have:=mul_fit _ _ hs1 hs3 i h.1.1 (by omega)
  have:=mul_fit _ _ hs1 hs2 s.lessons.length (by omega) (by omega)
  exact ⟨by omega,by omega⟩
 ·exact i64_small (by decide) (by decide)
theorem gat_any (t u:Trm) (n:Int) (name:Bs) (binds:List Bnd) (l:List Frm) (fa:FrmA) (env:List Ev) (z:SlA) (s:Schl) (x:SchA) (w0 w:World) (mb left:Nat) (hf:SchFit s) (h0:Below w0.heap.size w0 w) (hmb0:w0.heap.size<=mb) (hs:SchIn w0 (·<w0.heap.size) s x) (hx:FrmIn w0 (·<w0.heap.size) (.mk 3 name n [t,u] binds l) fa) (hz:SlIn w (Off mb w) (env.map Ev.toD) z) (hel:env.length<=1500000) (hm:MkB w mb s x left) (hl:left<=65536) :
  Calls Tryz.prog 38 #[.pointer (some ⟨mb,0,none⟩),.slice z.a env.length z.cap,ndV (.mk 3 name n [t,u] binds l,fa)] w (TreeP s x mb left w (.mk 2 (wkAt s (plOf env t.name) (plOf env u.name)) 0 [])):=by
 have hmlt:=hm.lt
 obtain ⟨W0,hW0⟩:∃ W0,W0=(w.alloc (.cells (fa.cells (.mk 3 name n [t,u] binds l)).toArray 34)).alloc (.cells #[.int .i64 0,.int .i64 0,.int .i64 0,.slice none 0 0] 39):=⟨_,rfl⟩
 have hb0:Below w.heap.size w W0:=by rw [hW0];exact ((Below.refl _ _).alloc (Nat.le_refl _) _).alloc (by simp) _
 have hz0:W0.heap.size=w.heap.size+2:=by rw [hW0];simp
 have hq0:FrmBox W0 w.heap.size (.mk 3 name n [t,u] binds l) fa:=by rw [hW0];unfold FrmBox;rw [heap_get,if_neg (by simp),heap_get,if_pos rfl]
 have hq1:W0.heap[w.heap.size+1]?=some (.cells #[.int .i64 0,.int .i64 0,.int .i64 0,.slice none 0 0] 39 (0,0)):=by rw [hW0,heap_get,if_pos (by simp)]
 have hmk0:MkB W0 mb s x left:=(hb0.block mb hmlt).trans hm
 have HB:=Lh (aI hb0 (aI hq0 (aI hq1 hz0)))
 have HW0:=Lh hW0
 have HM:=Lh (aI hm hl)
 have HX:=Lh (aI h0 (aI hmb0 (aI hx (aI hz (aI hf (aI hel hs))))))
 have HPL:=Lh (fun (t:Trm) (W:World) (hz:SlIn W (·<W.heap.size) (env.map Ev.toD) z)=>place_any env z t W hz (by omega))
 have HWK:=Lh (fun (i j:Int) (W:World)=>wat_any s x i j W hf.lessons hf.slots hf.rooms)
 obtain ⟨c0,c1,c2,c3,c4,c5⟩:=hq0.cells
 clear hb0 hq0 hq1 hW0 hm hl hz0 h0 hmb0 hx hz hel hs hf
 simp only [ndV,FrmA.cells,SlA.val,Frm.kind,Frm.name,Frm.n,Frm.terms,Frm.binds,Frm.l,List.length_cons,List.length_nil,Nat.zero_add,Nat.reduceAdd] at HW0 c0 c1 c2 c3 c4 c5 ⊢
 go_enter Tryz.func38,Tryz.ntmps38
 go_wp2_with fail
 rw [<- HW0.out]
 go_wp2_with fail
 refine (part_any 1 none 0 0 s x left mb W0 hmk0 HM.out.2).mono ?_
 rintro e w2 ⟨hm2,⟨hp,rfl,hmk2⟩ | ⟨hp,rfl,hmk2⟩⟩
 rotate_left
 ·refine ⟨rfl,(Chalk.Mod.of_below (S:=fun k=>k=mb) HB.out.1).trans hm2 (fun _ _ h=>h),.inr ⟨?_,rfl,_,hmk2⟩⟩
  simp only [Tr.size_mk,sizes];omega
 clear c0 c1 c2 c3 c4 c5
 have hz2:=hm2.size
 have hz0:=HB.out.2.2.2
 have hz02:w.heap.size+2<=w2.heap.size:=by omega
 obtain ⟨WA,hWA⟩:∃ WA,WA=w2.alloc (.cells #[.int .i64 1,.int .i64 0,.int .i64 0,.slice none 0 0] 39):=⟨_,rfl⟩
 have hbA:Below w2.heap.size w2 WA:=by rw [hWA];exact (Below.refl _ _).alloc (Nat.le_refl _) _
 have hzA:WA.heap.size=w2.heap.size+1:=by rw [hWA];simp
 have hkA:WA.heap[w2.heap.size]?=some (.cells #[.int .i64 1,.int .i64 0,.int .i64 0,.slice none 0 0] 39 (0,0)):=by rw [hWA,heap_get,if_pos rfl]
 have q2:FrmBox w2 w.heap.size (.mk 3 name n [t,u] binds l) fa:=heap_kept HB.out.2.1 hm2 (by omega)
 have qA:FrmBox WA w.heap.size (.mk 3 name n [t,u] binds l) fa:=(hbA.block _ (by omega)).trans q2
 have r2:=heap_kept HB.out.2.2.1 hm2 (by omega)
 have rA:=(hbA.block _ (by omega)).trans r2
 have hmkA:MkB WA mb s x ((left:Int) - 1):=(hbA.block mb (by omega)).trans hmk2
 have hmw:Chalk.Mod (fun k=>k=mb) w WA:=((Chalk.Mod.of_below (S:=fun k=>k=mb) HB.out.1).trans hm2 (fun _ _ h=>h)).trans (Chalk.Mod.of_below (S:=fun k=>k=mb) hbA) (fun _ _ h=>h)
 have hb0A:Below w0.heap.size w0 WA:=HX.out.1.trans (hmw.below HX.out.1.size (fun k hk=>by have:=HX.out.2.1;omega))
 have hzwA:SlIn WA (·<WA.heap.size) (env.map Ev.toD) z:=(HX.out.2.2.2.1.agree (hmw.agree (fun k hk=>hk))).mono (fun k hk=>by have:=hk.1;omega)
 have HA:=Lh (aI hbA (aI hzA (aI hkA (aI qA (aI rA (aI hmkA (aI hmw (aI hb0A (aI hzwA hp)))))))))
 have hWA':w2.alloc (.cells #[.int .i64 1,.int .i64 0,.int .i64 0,.slice none 0 0] 39)=WA:=hWA.symm
 obtain ⟨c0,c1,c2,c3,c4,c5⟩:=q2.cells
 simp only [Frm.kind,Frm.terms] at c0 c3
 clear c1 c2 c4 c5 hbA hzA hkA q2 qA r2 rA hmkA hmw hb0A hzwA hp hm2 hmk2 hz2 hmk0 hWA
 have hwlt:w.heap.size<w2.heap.size:=by omega
 have HWA:=Lh hWA'
 clear hWA'
 go_wp2_with fail
 rw [HWA.out]
 obtain ⟨q1,_,_,q4,q5⟩:=HX.out.2.2.1.terms.flat Trm.flatT
 simp only [Frm.terms] at q1 q4 q5
 obtain ⟨hta,htb⟩:=q1 (by simp)
 obtain ⟨t0,t1,t2⟩:=q4.three 0 (by simp) rfl
 obtain ⟨u0,u1,u2⟩:=q4.three 1 (by simp) rfl
 simp only [List.getElem_cons_zero,List.getElem_cons_succ,Nat.zero_mul,Nat.add_zero,Nat.one_mul] at t0 t1 t2 u0 u1 u2
 have HKS:Hid (∀ w',Chalk.Mod (fun k=>k=w2.heap.size) WA w'->w'.cell? ⟨mb,0,none⟩=some (.slice x.slots.a s.slots.length x.slots.cap)/\w'.cell? ⟨mb,1,none⟩=some (.slice x.rooms.a s.rooms.length x.rooms.cap)/\w'.cell? ⟨mb,2,none⟩=some (.slice x.people.a s.people.length x.people.cap)/\w'.cell? ⟨mb,3,none⟩=some (.slice x.groups.a s.groups.length x.groups.cap)/\w'.cell? ⟨mb,4,none⟩=some (.slice x.lessons.a s.lessons.length x.lessons.cap)/\w'.cell? ⟨w.heap.size,3,none⟩=some (.slice (some ⟨fa.t.b,fa.t.o,none⟩) 2 fa.t.cap)/\w'.cell? ⟨fa.t.b,fa.t.o,none⟩=some (.int .i64 t.kind)/\w'.cell? ⟨fa.t.b,fa.t.o+1,none⟩=some (.string ⟨t.name.toArray⟩)/\w'.cell? ⟨fa.t.b,fa.t.o+2,none⟩=some (.int .i64 t.n)/\w'.cell? ⟨fa.t.b,fa.t.o+3,none⟩=some (.int .i64 u.kind)/\w'.cell? ⟨fa.t.b,fa.t.o+4,none⟩=some (.string ⟨u.name.toArray⟩)/\w'.cell? ⟨fa.t.b,fa.t.o+5,none⟩=some (.int .i64 u.n)):=Lh (fun w' hW=>by
  obtain ⟨m0,m1,m2,m3,m4,_,_⟩:=MkB.cells (heap_kept HA.out.2.2.2.2.2.1 hW (by omega))
  have g3:=(FrmBox.cells (heap_kept HA.out.2.2.2.1 hW (by omega))).2.2.2.1
  simp only [Frm.terms,SlA.val,hta] at g3
  have hb:=HA.out.2.2.2.2.2.2.2.1.trans (hW.below HA.out.2.2.2.2.2.2.2.1.size (fun k hk=>by have:=HX.out.1.size;omega))
  have hc:∀ j v,w0.cell? ⟨fa.t.b,j,none⟩=some v->w'.cell? ⟨fa.t.b,j,none⟩=some v:=fun j v hv=>(hb.cell (p:=⟨fa.t.b,j,none⟩) htb).trans hv
  exact ⟨m0,m1,m2,m3,m4,g3,hc _ _ t0,hc _ _ t1,hc _ _ t2,hc _ _ u0,hc _ _ u1,hc _ _ u2⟩)
 clear q1 q4 q5 htb t0 t1 t2 u0 u1 u2 hta
 have hWAl:w2.heap.size<WA.heap.size:=by have:=HA.out.2.1;omega
 refine wp_region_U 20 (S:=fun w'=>w'.cell? ⟨mb,0,none⟩=some (.slice x.slots.a s.slots.length x.slots.cap)/\w'.cell? ⟨mb,1,none⟩=some (.slice x.rooms.a s.rooms.length x.rooms.cap)/\w'.cell? ⟨mb,2,none⟩=some (.slice x.people.a s.people.length x.people.cap)/\w'.cell? ⟨mb,3,none⟩=some (.slice x.groups.a s.groups.length x.groups.cap)/\w'.cell? ⟨mb,4,none⟩=some (.slice x.lessons.a s.lessons.length x.lessons.cap)/\w'.cell? ⟨w.heap.size,3,none⟩=some (.slice (some ⟨fa.t.b,fa.t.o,none⟩) 2 fa.t.cap)/\w'.cell? ⟨fa.t.b,fa.t.o,none⟩=some (.int .i64 t.kind)/\w'.cell? ⟨fa.t.b,fa.t.o+1,none⟩=some (.string ⟨t.name.toArray⟩)/\w'.cell? ⟨fa.t.b,fa.t.o+2,none⟩=some (.int .i64 t.n)/\w'.cell? ⟨fa.t.b,fa.t.o+3,none⟩=some (.int .i64 u.kind)/\w'.cell? ⟨fa.t.b,fa.t.o+4,none⟩=some (.string ⟨u.name.toArray⟩)/\w'.cell? ⟨fa.t.b,fa.t.o+5,none⟩=some (.int .i64 u.n)) (by kernel_rfl) (HKS.out _ (Chalk.Mod.refl _ _).drew) (fun qH=>?_)
 refine tkU (i:=0) rfl qH ?_
 try simp only [Act.put,ub1,ub2,ub3]
 refine tkU (i:=1) rfl qH ?_
 try simp only [Act.put,ub1,ub2,ub3]
 refine tkU (i:=2) rfl qH ?_
 try simp only [Act.put,ub1,ub2,ub3]
 refine tkU (i:=3) rfl qH ?_
 try simp only [Act.put,ub1,ub2,ub3]
 refine tkU (i:=4) rfl qH ?_
 try simp only [Act.put,ub1,ub2,ub3]
 refine tkU (i:=5) rfl qH ?_
 try simp only [Act.put,ub1,ub2,ub3]
 refine tkU (i:=6) rfl qH ?_
 try simp only [Act.put,ub1,ub2,ub3]
 refine tkU (i:=7) rfl qH ?_
 try simp only [Act.put,ub1,ub2,ub3]
 refine tkU (i:=8) rfl qH ?_
 try simp only [Act.put,ub1,ub2,ub3]
 refine tkU (i:=10) rfl qH ?_
 try simp only [Act.put,ub1,ub2,ub3]
 refine tkU (i:=11) rfl qH ?_
 try simp only [Act.put,ub1,ub2,ub3]
 refine tkU (i:=12) rfl qH ?_
 try simp only [Act.put,ub1,ub2,ub3]
 refine tkU (i:=13) rfl qH ?_
 try simp only [Act.put,ub1,ub2,ub3]
 refine tkU (i:=14) rfl qH ?_
 try simp only [Act.put,ub1,ub2,ub3]
 refine tkU (i:=17) rfl qH ?_
 try simp only [Act.put,ub1,ub2,ub3]
 refine ready_U (rs:=[9]) (by kernel_rfl) (by simp) ?_
 refine cons_U rfl (fun K hK=>?_) nil_U
 go_simp
 go_at_call 82
 refine (HPL.out t WA.drew (HA.out.2.2.2.2.2.2.2.2.1.later (Below.refl _ _).drew (Nat.le_refl _))).mono ?_
 rintro e w3 ⟨rfl,hb⟩
 have Hw3:=Lh (Below.trans (Below.refl WA.heap.size WA).drew (hb.mono (Nat.le_refl _)))
 clear hb
 go_simp
 refine hK.out _ _ ?_ (fun qI=>?_)
 ·exact HKS.out _ (Chalk.Mod.of_below Hw3.out)
 clear hK K qH
 have qH:=qI
 clear qI
 try simp only [Act.put,ub1,ub2,ub3]
 refine ready_U (rs:=[15]) (by kernel_rfl) (by simp) ?_
 refine cons_U rfl (fun K hK=>?_) nil_U
 go_simp
 go_at_call 82
 refine (HPL.out u w3 (HA.out.2.2.2.2.2.2.2.2.1.later Hw3.out Hw3.out.size)).mono ?_
 rintro e w4 ⟨rfl,hb⟩
 have Hw4:=Lh (Hw3.out.trans (hb.mono Hw3.out.size))
 clear hb
 go_simp
 refine hK.out _ _ ?_ (fun qI=>?_)
 ·exact HKS.out _ (Chalk.Mod.of_below Hw4.out)
 clear hK K qH
 have qH:=qI
 clear qI
 try simp only [Act.put,ub1,ub2,ub3]
 refine ready_U (rs:=[16]) (by kernel_rfl) (by simp) ?_
 refine cons_U rfl (fun K hK=>?_) nil_U
 go_simp
 go_at_call 44
 refine (HWK.out _ _ w4).mono ?_
 rintro e w5 ⟨rfl,hb⟩
 have Hw5:=Lh (Hw4.out.trans (hb.mono Hw4.out.size))
 clear hb
 have k5:=(Hw5.out.block w2.heap.size hWAl).trans HA.out.2.2.1
 have x0:w5.cell? ⟨w2.heap.size,0,none⟩=some (.int .i64 1):=cH k5 rfl
 have x1:w5.cell? ⟨w2.heap.size,1,none⟩=some (.int .i64 0):=cH k5 rfl
 have x2:w5.cell? ⟨w2.heap.size,2,none⟩=some (.int .i64 0):=cH k5 rfl
 have x3:w5.cell? ⟨w2.heap.size,3,none⟩=some (.slice none 0 0):=cH k5 rfl
 have f0:w5.frozen? ⟨w2.heap.size,0,none⟩=false:=fH k5
 have f1:w5.frozen? ⟨w2.heap.size,1,none⟩=false:=fH k5
 have f2:w5.frozen? ⟨w2.heap.size,2,none⟩=false:=fH k5
 have f3:w5.frozen? ⟨w2.heap.size,3,none⟩=false:=fH k5
 have HK5:=Lh k5
 have hl5:=(gS k5).1
 clear k5
 go_simp
 refine hK.out _ _ ?_ (fun qI=>?_)
 ·exact HKS.out _ (Chalk.Mod.of_below Hw5.out)
 clear hK K qH
 have qH:=qI
 clear qI
 try simp only [Act.put,ub1,ub2,ub3]
 refine ready_U (rs:=[18]) (by kernel_rfl) (by simp) ?_
 refine cons_U rfl (fun K hK=>?_) nil_U
 go_simp
 refine hK.out _ _ ?_ (fun qI=>?_)
 ·exact HKS.out _ ((Chalk.Mod.of_below (S:=fun k=>k=w2.heap.size) Hw5.out).setCell (p:=⟨w2.heap.size,0,none⟩) (fun _=>rfl) _)
 clear hK K qH
 have qH:=qI
 clear qI
 try simp only [Act.put,ub1,ub2,ub3]
 refine tkU (i:=19) rfl qH ?_
 try simp only [Act.put,ub1,ub2,ub3]
 refine ready_U (rs:=[20]) (by kernel_rfl) (by simp) ?_
 refine cons_V rfl (by kernel_rfl) (fun K hK=>?_) nil_U
 go_simp
 refine hK.out _ _ ?_
 clear hK K
 try simp only [Act.put,ub1,ub2,ub3]
 refine done_U (by kernel_rfl) ?_ _
 clear qH
 have hwk:I64 (wkAt s (plOf env t.name) (plOf env u.name)):=wkAt_fit s _ _ HX.out.2.2.2.2.1.lessons HX.out.2.2.2.2.1.slots HX.out.2.2.2.2.1.rooms
 have HWF:=Lh hwk
 clear hwk
 generalize hgw:wkAt s (plOf env t.name) (plOf env u.name)=wk at HWF ⊢
 have HGW:=Lh hgw
 clear hgw
 have k6:=box_store (i:=1) (.int .i64 wk) (box_store (i:=0) (.int .i64 2) HK5.out)
 have hm6:Chalk.Mod (fun k=>k=w2.heap.size) WA ((w5.setCell ⟨w2.heap.size,0,none⟩ (.int .i64 2)).setCell ⟨w2.heap.size,1,none⟩ (.int .i64 wk)):=((Chalk.Mod.of_below (S:=fun k=>k=w2.heap.size) Hw5.out).setCell (p:=⟨w2.heap.size,0,none⟩) (fun _=>rfl) _).setCell (p:=⟨w2.heap.size,1,none⟩) (fun _=>rfl) _
 generalize (w5.setCell ⟨w2.heap.size,0,none⟩ (.int .i64 2)).setCell ⟨w2.heap.size,1,none⟩ (.int .i64 wk)=w6 at k6 hm6 ⊢
 have q6:=heap_kept HA.out.2.2.2.2.1 hm6 (by omega)
 clear x0 x1 x2 x3 f0 f1 f2 f3 hl5
 have v0:w6.cell? ⟨w2.heap.size,0,none⟩=some (.int .i64 2):=cH k6 rfl
 have v1:w6.cell? ⟨w2.heap.size,1,none⟩=some (.int .i64 wk):=cH k6 rfl
 have v2:w6.cell? ⟨w2.heap.size,2,none⟩=some (.int .i64 0):=cH k6 rfl
 have v3:w6.cell? ⟨w2.heap.size,3,none⟩=some (.slice none 0 0):=cH k6 rfl
 have HM6:=Lh (aI hm6 k6)
 have HQ6:=Lh q6
 have hlw6:w.heap.size+1<w6.heap.size:=(gS q6).1
 clear hm6 k6
 have x0:w6.cell? ⟨w.heap.size+1,0,none⟩=some (.int .i64 0):=cH q6 rfl
 have f0:w6.frozen? ⟨w.heap.size+1,0,none⟩=false:=fH q6
 have x1:w6.cell? ⟨w.heap.size+1,1,none⟩=some (.int .i64 0):=cH q6 rfl
 have f1:w6.frozen? ⟨w.heap.size+1,1,none⟩=false:=fH q6
 have x2:w6.cell? ⟨w.heap.size+1,2,none⟩=some (.int .i64 0):=cH q6 rfl
 have f2:w6.frozen? ⟨w.heap.size+1,2,none⟩=false:=fH q6
 have x3:w6.cell? ⟨w.heap.size+1,3,none⟩=some (.slice none 0 0):=cH q6 rfl
 have f3:w6.frozen? ⟨w.heap.size+1,3,none⟩=false:=fH q6
 clear q6
 go_wp2_with fail
 have hq3:=put4_heap HQ6.out (.int .i64 2) (.int .i64 wk) (.int .i64 0) (.slice none 0 0)
 have hm3:=put4_mod w6 (w.heap.size+1) 0 (.int .i64 2) (.int .i64 wk) (.int .i64 0) (.slice none 0 0)
 unfold put4 at hq3 hm3
 simp only [Nat.zero_add] at hq3 hm3
 generalize (((w6.setCell _ _).setCell _ _).setCell _ _).setCell _ _=W3 at hq3 hm3 ⊢
 have HY:=Lh (aI hq3 hm3)
 have y0:W3.cell? ⟨w.heap.size+1,0,none⟩=some (.int .i64 2):=cH hq3 rfl
 have y1:W3.cell? ⟨w.heap.size+1,1,none⟩=some (.int .i64 wk):=cH hq3 rfl
 have y2:W3.cell? ⟨w.heap.size+1,2,none⟩=some (.int .i64 0):=cH hq3 rfl
 have y3:W3.cell? ⟨w.heap.size+1,3,none⟩=some (.slice none 0 0):=cH hq3 rfl
 clear hq3 hm3
 refine bodyPost_ret (v:=.agg #[.int .i64 2,.int .i64 wk,.int .i64 0,.slice none 0 0]) (by simp [results,Tryz.results38,go_sem,y0,y1,y2,y3]) rfl ?_
 have hmW:Chalk.Mod (fun k=>k=mb) w W3:=HA.out.2.2.2.2.2.2.1.trans (((HM6.out.1.mono (T:=fun k=>k=w2.heap.size∨k=w.heap.size+1) (fun _ h=>.inl h)).trans HY.out.2 (fun _ _ h=>.inr h))) (fun k hk h=>by omega)
 have hp:=HA.out.2.2.2.2.2.2.2.2.2
 have hcl:DAt W3 (fun k=>w.heap.size<=k/\k<W3.heap.size) (Tr.mk 2 wk 0 []).toD [.int .i64 2,.int .i64 wk,.int .i64 0,.slice none 0 0]:=Tr.close (u:=⟨none,0,0,0⟩) (i64_small (by decide) (by decide)) HWF.out (i64_small (by decide) (by decide)) (SlIn.nil (Nat.zero_le _) _ _ _)
 have hsz:(Tr.mk 2 wk 0 []).size=1:=by simp only [Tr.size_mk,sizes]
 rw [HGW.out]
 refine ⟨hmW,.inl ⟨by omega,⟨_,rfl,hcl⟩,?_⟩⟩
 rw [hsz]
 exact (HA.out.2.2.2.2.2.1.kept HM6.out.1 (by omega)).kept HY.out.2 (by omega)
theorem gin_any (t u:Trm) (n:Int) (name:Bs) (binds:List Bnd) (l:List Frm) (fa:FrmA) (env:List Ev) (z:SlA) (s:Schl) (x:SchA) (w0 w:World) (mb left:Nat) (hf:SchFit s) (h0:Below w0.heap.size w0 w) (hmb0:w0.heap.size<=mb) (hs:SchIn w0 (·<w0.heap.size) s x) (hx:FrmIn w0 (·<w0.heap.size) (.mk 4 name n [t,u] binds l) fa) (hz:SlIn w (Off mb w) (env.map Ev.toD) z) (hel:env.length<=1500000) (hm:MkB w mb s x left) (hl:left<=65536) :
  Calls Tryz.prog 38 #[.pointer (some ⟨mb,0,none⟩),.slice z.a env.length z.cap,ndV (.mk 4 name n [t,u] binds l,fa)] w (TreeP s x mb left w (.mk 2 (wkIn s (plOf env t.name) (plOf env u.name)) 0 [])):=by
 have hmlt:=hm.lt
 obtain ⟨W0,hW0⟩:∃ W0,W0=(w.alloc (.cells (fa.cells (.mk 4 name n [t,u] binds l)).toArray 34)).alloc (.cells #[.int .i64 0,.int .i64 0,.int .i64 0,.slice none 0 0] 39):=⟨_,rfl⟩
 have hb0:Below w.heap.size w W0:=by rw [hW0];exact ((Below.refl _ _).alloc (Nat.le_refl _) _).alloc (by simp) _
 have hz0:W0.heap.size=w.heap.size+2:=by rw [hW0];simp
 have hq0:FrmBox W0 w.heap.size (.mk 4 name n [t,u] binds l) fa:=by rw [hW0];unfold FrmBox;rw [heap_get,if_neg (by simp),heap_get,if_pos rfl]
 have hq1:W0.heap[w.heap.size+1]?=some (.cells #[.int .i64 0,.int .i64 0,.int .i64 0,.slice none 0 0] 39 (0,0)):=by rw [hW0,heap_get,if_pos (by simp)]
 have hmk0:MkB W0 mb s x left:=(hb0.block mb hmlt).trans hm
 have HB:=Lh (aI hb0 (aI hq0 (aI hq1 hz0)))
 have HW0:=Lh hW0
 have HM:=Lh (aI hm hl)
 have HX:=Lh (aI h0 (aI hmb0 (aI hx (aI hz (aI hf (aI hel hs))))))
 have HPL:=Lh (fun (t:Trm) (W:World) (hz:SlIn W (·<W.heap.size) (env.map Ev.toD) z)=>place_any env z t W hz (by omega))
 have HWK:=Lh (fun (i j:Int) (W:World)=>win_any s x i j W hf.lessons hf.slots hf.rooms)
 obtain ⟨c0,c1,c2,c3,c4,c5⟩:=hq0.cells
 clear hb0 hq0 hq1 hW0 hm hl hz0 h0 hmb0 hx hz hel hs hf
 simp only [ndV,FrmA.cells,SlA.val,Frm.kind,Frm.name,Frm.n,Frm.terms,Frm.binds,Frm.l,List.length_cons,List.length_nil,Nat.zero_add,Nat.reduceAdd] at HW0 c0 c1 c2 c3 c4 c5 ⊢
 go_enter Tryz.func38,Tryz.ntmps38
 go_wp2_with fail
 rw [<- HW0.out]
 go_wp2_with fail
 refine (part_any 1 none 0 0 s x left mb W0 hmk0 HM.out.2).mono ?_
 rintro e w2 ⟨hm2,⟨hp,rfl,hmk2⟩ | ⟨hp,rfl,hmk2⟩⟩
 rotate_left
 ·refine ⟨rfl,(Chalk.Mod.of_below (S:=fun k=>k=mb) HB.out.1).trans hm2 (fun _ _ h=>h),.inr ⟨?_,rfl,_,hmk2⟩⟩
  simp only [Tr.size_mk,sizes];omega
 clear c0 c1 c2 c3 c4 c5
 have hz2:=hm2.size
 have hz0:=HB.out.2.2.2
 have hz02:w.heap.size+2<=w2.heap.size:=by omega
 obtain ⟨WA,hWA⟩:∃ WA,WA=w2.alloc (.cells #[.int .i64 1,.int .i64 0,.int .i64 0,.slice none 0 0] 39):=⟨_,rfl⟩
 have hbA:Below w2.heap.size w2 WA:=by rw [hWA];exact (Below.refl _ _).alloc (Nat.le_refl _) _
 have hzA:WA.heap.size=w2.heap.size+1:=by rw [hWA];simp
 have hkA:WA.heap[w2.heap.size]?=some (.cells #[.int .i64 1,.int .i64 0,.int .i64 0,.slice none 0 0] 39 (0,0)):=by rw [hWA,heap_get,if_pos rfl]
 have q2:FrmBox w2 w.heap.size (.mk 4 name n [t,u] binds l) fa:=heap_kept HB.out.2.1 hm2 (by omega)
 have qA:FrmBox WA w.heap.size (.mk 4 name n [t,u] binds l) fa:=(hbA.block _ (by omega)).trans q2
 have r2:=heap_kept HB.out.2.2.1 hm2 (by omega)
 have rA:=(hbA.block _ (by omega)).trans r2
 have hmkA:MkB WA mb s x ((left:Int) - 1):=(hbA.block mb (by omega)).trans hmk2
 have hmw:Chalk.Mod (fun k=>k=mb) w WA:=((Chalk.Mod.of_below (S:=fun k=>k=mb) HB.out.1).trans hm2 (fun _ _ h=>h)).trans (Chalk.Mod.of_below (S:=fun k=>k=mb) hbA) (fun _ _ h=>h)
 have hb0A:Below w0.heap.size w0 WA:=HX.out.1.trans (hmw.below HX.out.1.size (fun k hk=>by have:=HX.out.2.1;omega))
 have hzwA:SlIn WA (·<WA.heap.size) (env.map Ev.toD) z:=(HX.out.2.2.2.1.agree (hmw.agree (fun k hk=>hk))).mono (fun k hk=>by have:=hk.1;omega)
 have HA:=Lh (aI hbA (aI hzA (aI hkA (aI qA (aI rA (aI hmkA (aI hmw (aI hb0A (aI hzwA hp)))))))))
 have hWA':w2.alloc (.cells #[.int .i64 1,.int .i64 0,.int .i64 0,.slice none 0 0] 39)=WA:=hWA.symm
 obtain ⟨c0,c1,c2,c3,c4,c5⟩:=q2.cells
 simp only [Frm.kind,Frm.terms] at c0 c3
 clear c1 c2 c4 c5 hbA hzA hkA q2 qA r2 rA hmkA hmw hb0A hzwA hp hm2 hmk2 hz2 hmk0 hWA
 have hwlt:w.heap.size<w2.heap.size:=by omega
 have HWA:=Lh hWA'
 clear hWA'
 go_wp2_with fail
 rw [HWA.out]
 obtain ⟨q1,_,_,q4,q5⟩:=HX.out.2.2.1.terms.flat Trm.flatT
 simp only [Frm.terms] at q1 q4 q5
 obtain ⟨hta,htb⟩:=q1 (by simp)
 obtain ⟨t0,t1,t2⟩:=q4.three 0 (by simp) rfl
 obtain ⟨u0,u1,u2⟩:=q4.three 1 (by simp) rfl
 simp only [List.getElem_cons_zero,List.getElem_cons_succ,Nat.zero_mul,Nat.add_zero,Nat.one_mul] at t0 t1 t2 u0 u1 u2
 have HKS:Hid (∀ w',Chalk.Mod (fun k=>k=w2.heap.size) WA w'->w'.cell? ⟨mb,0,none⟩=some (.slice x.slots.a s.slots.length x.slots.cap)/\w'.cell? ⟨mb,1,none⟩=some (.slice x.rooms.a s.rooms.length x.rooms.cap)/\w'.cell? ⟨mb,2,none⟩=some (.slice x.people.a s.people.length x.people.cap)/\w'.cell? ⟨mb,3,none⟩=some (.slice x.groups.a s.groups.length x.groups.cap)/\w'.cell? ⟨mb,4,none⟩=some (.slice x.lessons.a s.lessons.length x.lessons.cap)/\w'.cell? ⟨w.heap.size,3,none⟩=some (.slice (some ⟨fa.t.b,fa.t.o,none⟩) 2 fa.t.cap)/\w'.cell? ⟨fa.t.b,fa.t.o,none⟩=some (.int .i64 t.kind)/\w'.cell? ⟨fa.t.b,fa.t.o+1,none⟩=some (.string ⟨t.name.toArray⟩)/\w'.cell? ⟨fa.t.b,fa.t.o+2,none⟩=some (.int .i64 t.n)/\w'.cell? ⟨fa.t.b,fa.t.o+3,none⟩=some (.int .i64 u.kind)/\w'.cell? ⟨fa.t.b,fa.t.o+4,none⟩=some (.string ⟨u.name.toArray⟩)/\w'.cell? ⟨fa.t.b,fa.t.o+5,none⟩=some (.int .i64 u.n)):=Lh (fun w' hW=>by
  obtain ⟨m0,m1,m2,m3,m4,_,_⟩:=MkB.cells (heap_kept HA.out.2.2.2.2.2.1 hW (by omega))
  have g3:=(FrmBox.cells (heap_kept HA.out.2.2.2.1 hW (by omega))).2.2.2.1
  simp only [Frm.terms,SlA.val,hta] at g3
  have hb:=HA.out.2.2.2.2.2.2.2.1.trans (hW.below HA.out.2.2.2.2.2.2.2.1.size (fun k hk=>by have:=HX.out.1.size;omega))
  have hc:∀ j v,w0.cell? ⟨fa.t.b,j,none⟩=some v->w'.cell? ⟨fa.t.b,j,none⟩=some v:=fun j v hv=>(hb.cell (p:=⟨fa.t.b,j,none⟩) htb).trans hv
  exact ⟨m0,m1,m2,m3,m4,g3,hc _ _ t0,hc _ _ t1,hc _ _ t2,hc _ _ u0,hc _ _ u1,hc _ _ u2⟩)
 clear q1 q4 q5 htb t0 t1 t2 u0 u1 u2 hta
 have hWAl:w2.heap.size<WA.heap.size:=by have:=HA.out.2.1;omega
 refine wp_region_U 20 (S:=fun w'=>w'.cell? ⟨mb,0,none⟩=some (.slice x.slots.a s.slots.length x.slots.cap)/\w'.cell? ⟨mb,1,none⟩=some (.slice x.rooms.a s.rooms.length x.rooms.cap)/\w'.cell? ⟨mb,2,none⟩=some (.slice x.people.a s.people.length x.people.cap)/\w'.cell? ⟨mb,3,none⟩=some (.slice x.groups.a s.groups.length x.groups.cap)/\w'.cell? ⟨mb,4,none⟩=some (.slice x.lessons.a s.lessons.length x.lessons.cap)/\w'.cell? ⟨w.heap.size,3,none⟩=some (.slice (some ⟨fa.t.b,fa.t.o,none⟩) 2 fa.t.cap)/\w'.cell? ⟨fa.t.b,fa.t.o,none⟩=some (.int .i64 t.kind)/\w'.cell? ⟨fa.t.b,fa.t.o+1,none⟩=some (.string ⟨t.name.toArray⟩)/\w'.cell? ⟨fa.t.b,fa.t.o+2,none⟩=some (.int .i64 t.n)/\w'.cell? ⟨fa.t.b,fa.t.o+3,none⟩=some (.int .i64 u.kind)/\w'.cell? ⟨fa.t.b,fa.t.o+4,none⟩=some (.string ⟨u.name.toArray⟩)/\w'.cell? ⟨fa.t.b,fa.t.o+5,none⟩=some (.int .i64 u.n)) (by kernel_rfl) (HKS.out _ (Chalk.Mod.refl _ _).drew) (fun qH=>?_)
 refine tkU (i:=0) rfl qH ?_
 try simp only [Act.put,ub1,ub2,ub3]
 refine tkU (i:=1) rfl qH ?_
 try simp only [Act.put,ub1,ub2,ub3]
 refine tkU (i:=2) rfl qH ?_
 try simp only [Act.put,ub1,ub2,ub3]
 refine tkU (i:=3) rfl qH ?_
 try simp only [Act.put,ub1,ub2,ub3]
 refine tkU (i:=4) rfl qH ?_
 try simp only [Act.put,ub1,ub2,ub3]
 refine tkU (i:=5) rfl qH ?_
 try simp only [Act.put,ub1,ub2,ub3]
 refine tkU (i:=6) rfl qH ?_
 try simp only [Act.put,ub1,ub2,ub3]
 refine tkU (i:=7) rfl qH ?_
 try simp only [Act.put,ub1,ub2,ub3]
 refine tkU (i:=8) rfl qH ?_
 try simp only [Act.put,ub1,ub2,ub3]
 refine tkU (i:=10) rfl qH ?_
 try simp only [Act.put,ub1,ub2,ub3]
 refine tkU (i:=11) rfl qH ?_
 try simp only [Act.put,ub1,ub2,ub3]
 refine tkU (i:=12) rfl qH ?_
 try simp only [Act.put,ub1,ub2,ub3]
 refine tkU (i:=13) rfl qH ?_
 try simp only [Act.put,ub1,ub2,ub3]
 refine tkU (i:=14) rfl qH ?_
 try simp only [Act.put,ub1,ub2,ub3]
 refine tkU (i:=17) rfl qH ?_
 try simp only [Act.put,ub1,ub2,ub3]
 refine ready_U (rs:=[9]) (by kernel_rfl) (by simp) ?_
 refine cons_U rfl (fun K hK=>?_) nil_U
 go_simp
 go_at_call 82
 refine (HPL.out t WA.drew (HA.out.2.2.2.2.2.2.2.2.1.later (Below.refl _ _).drew (Nat.le_refl _))).mono ?_
 rintro e w3 ⟨rfl,hb⟩
 have Hw3:=Lh (Below.trans (Below.refl WA.heap.size WA).drew (hb.mono (Nat.le_refl _)))
 clear hb
 go_simp
 refine hK.out _ _ ?_ (fun qI=>?_)
 ·exact HKS.out _ (Chalk.Mod.of_below Hw3.out)
 clear hK K qH
 have qH:=qI
 clear qI
 try simp only [Act.put,ub1,ub2,ub3]
 refine ready_U (rs:=[15]) (by kernel_rfl) (by simp) ?_
 refine cons_U rfl (fun K hK=>?_) nil_U
 go_simp
 go_at_call 82
 refine (HPL.out u w3 (HA.out.2.2.2.2.2.2.2.2.1.later Hw3.out Hw3.out.size)).mono ?_
 rintro e w4 ⟨rfl,hb⟩
 have Hw4:=Lh (Hw3.out.trans (hb.mono Hw3.out.size))
 clear hb
 go_simp
 refine hK.out _ _ ?_ (fun qI=>?_)
 ·exact HKS.out _ (Chalk.Mod.of_below Hw4.out)
 clear hK K qH
 have qH:=qI
 clear qI
 try simp only [Act.put,ub1,ub2,ub3]
 refine ready_U (rs:=[16]) (by kernel_rfl) (by simp) ?_
 refine cons_U rfl (fun K hK=>?_) nil_U
 go_simp
 go_at_call 46
 refine (HWK.out _ _ w4).mono ?_
 rintro e w5 ⟨rfl,hb⟩
 have Hw5:=Lh (Hw4.out.trans (hb.mono Hw4.out.size))
 clear hb
 have k5:=(Hw5.out.block w2.heap.size hWAl).trans HA.out.2.2.1
 have x0:w5.cell? ⟨w2.heap.size,0,none⟩=some (.int .i64 1):=cH k5 rfl
 have x1:w5.cell? ⟨w2.heap.size,1,none⟩=some (.int .i64 0):=cH k5 rfl
 have x2:w5.cell? ⟨w2.heap.size,2,none⟩=some (.int .i64 0):=cH k5 rfl
 have x3:w5.cell? ⟨w2.heap.size,3,none⟩=some (.slice none 0 0):=cH k5 rfl
 have f0:w5.frozen? ⟨w2.heap.size,0,none⟩=false:=fH k5
 have f1:w5.frozen? ⟨w2.heap.size,1,none⟩=false:=fH k5
 have f2:w5.frozen? ⟨w2.heap.size,2,none⟩=false:=fH k5
 have f3:w5.frozen? ⟨w2.heap.size,3,none⟩=false:=fH k5
 have HK5:=Lh k5
 have hl5:=(gS k5).1
 clear k5
 go_simp
 refine hK.out _ _ ?_ (fun qI=>?_)
 ·exact HKS.out _ (Chalk.Mod.of_below Hw5.out)
 clear hK K qH
 have qH:=qI
 clear qI
 try simp only [Act.put,ub1,ub2,ub3]
 refine ready_U (rs:=[18]) (by kernel_rfl) (by simp) ?_
 refine cons_U rfl (fun K hK=>?_) nil_U
 go_simp
 refine hK.out _ _ ?_ (fun qI=>?_)
 ·exact HKS.out _ ((Chalk.Mod.of_below (S:=fun k=>k=w2.heap.size) Hw5.out).setCell (p:=⟨w2.heap.size,0,none⟩) (fun _=>rfl) _)
 clear hK K qH
 have qH:=qI
 clear qI
 try simp only [Act.put,ub1,ub2,ub3]
 refine tkU (i:=19) rfl qH ?_
 try simp only [Act.put,ub1,ub2,ub3]
 refine ready_U (rs:=[20]) (by kernel_rfl) (by simp) ?_
 refine cons_V rfl (by kernel_rfl) (fun K hK=>?_) nil_U
 go_simp
 refine hK.out _ _ ?_
 clear hK K
 try simp only [Act.put,ub1,ub2,ub3]
 refine done_U (by kernel_rfl) ?_ _
 clear qH
 have hwk:I64 (wkIn s (plOf env t.name) (plOf env u.name)):=wkIn_fit s _ _ HX.out.2.2.2.2.1.lessons HX.out.2.2.2.2.1.slots HX.out.2.2.2.2.1.rooms
 have HWF:=Lh hwk
 clear hwk
 generalize hgw:wkIn s (plOf env t.name) (plOf env u.name)=wk at HWF ⊢
 have HGW:=Lh hgw
 clear hgw
 have k6:=box_store (i:=1) (.int .i64 wk) (box_store (i:=0) (.int .i64 2) HK5.out)
 have hm6:Chalk.Mod (fun k=>k=w2.heap.size) WA ((w5.setCell ⟨w2.heap.size,0,none⟩ (.int .i64 2)).setCell ⟨w2.heap.size,1,none⟩ (.int .i64 wk)):=((Chalk.Mod.of_below (S:=fun k=>k=w2.heap.size) Hw5.out).setCell (p:=⟨w2.heap.size,0,none⟩) (fun _=>rfl) _).setCell (p:=⟨w2.heap.size,1,none⟩) (fun _=>rfl) _
 generalize (w5.setCell ⟨w2.heap.size,0,none⟩ (.int .i64 2)).setCell ⟨w2.heap.size,1,none⟩ (.int .i64 wk)=w6 at k6 hm6 ⊢
 have q6:=heap_kept HA.out.2.2.2.2.1 hm6 (by omega)
 clear x0 x1 x2 x3 f0 f1 f2 f3 hl5
 have v0:w6.cell? ⟨w2.heap.size,0,none⟩=some (.int .i64 2):=cH k6 rfl
 have v1:w6.cell? ⟨w2.heap.size,1,none⟩=some (.int .i64 wk):=cH k6 rfl
 have v2:w6.cell? ⟨w2.heap.size,2,none⟩=some (.int .i64 0):=cH k6 rfl
 have v3:w6.cell? ⟨w2.heap.size,3,none⟩=some (.slice none 0 0):=cH k6 rfl
 have HM6:=Lh (aI hm6 k6)
 have HQ6:=Lh q6
 have hlw6:w.heap.size+1<w6.heap.size:=(gS q6).1
 clear hm6 k6
 have x0:w6.cell? ⟨w.heap.size+1,0,none⟩=some (.int .i64 0):=cH q6 rfl
 have f0:w6.frozen? ⟨w.heap.size+1,0,none⟩=false:=fH q6
 have x1:w6.cell? ⟨w.heap.size+1,1,none⟩=some (.int .i64 0):=cH q6 rfl
 have f1:w6.frozen? ⟨w.heap.size+1,1,none⟩=false:=fH q6
 have x2:w6.cell? ⟨w.heap.size+1,2,none⟩=some (.int .i64 0):=cH q6 rfl
 have f2:w6.frozen? ⟨w.heap.size+1,2,none⟩=false:=fH q6
 have x3:w6.cell? ⟨w.heap.size+1,3,none⟩=some (.slice none 0 0):=cH q6 rfl
 have f3:w6.frozen? ⟨w.heap.size+1,3,none⟩=false:=fH q6
 clear q6
 go_wp2_with fail
 have hq3:=put4_heap HQ6.out (.int .i64 2) (.int .i64 wk) (.int .i64 0) (.slice none 0 0)
 have hm3:=put4_mod w6 (w.heap.size+1) 0 (.int .i64 2) (.int .i64 wk) (.int .i64 0) (.slice none 0 0)
 unfold put4 at hq3 hm3
 simp only [Nat.zero_add] at hq3 hm3
 generalize (((w6.setCell _ _).setCell _ _).setCell _ _).setCell _ _=W3 at hq3 hm3 ⊢
 have HY:=Lh (aI hq3 hm3)
 have y0:W3.cell? ⟨w.heap.size+1,0,none⟩=some (.int .i64 2):=cH hq3 rfl
 have y1:W3.cell? ⟨w.heap.size+1,1,none⟩=some (.int .i64 wk):=cH hq3 rfl
 have y2:W3.cell? ⟨w.heap.size+1,2,none⟩=some (.int .i64 0):=cH hq3 rfl
 have y3:W3.cell? ⟨w.heap.size+1,3,none⟩=some (.slice none 0 0):=cH hq3 rfl
 clear hq3 hm3
 refine bodyPost_ret (v:=.agg #[.int .i64 2,.int .i64 wk,.int .i64 0,.slice none 0 0]) (by simp [results,Tryz.results38,go_sem,y0,y1,y2,y3]) rfl ?_
 have hmW:Chalk.Mod (fun k=>k=mb) w W3:=HA.out.2.2.2.2.2.2.1.trans (((HM6.out.1.mono (T:=fun k=>k=w2.heap.size∨k=w.heap.size+1) (fun _ h=>.inl h)).trans HY.out.2 (fun _ _ h=>.inr h))) (fun k hk h=>by omega)
 have hp:=HA.out.2.2.2.2.2.2.2.2.2
 have hcl:DAt W3 (fun k=>w.heap.size<=k/\k<W3.heap.size) (Tr.mk 2 wk 0 []).toD [.int .i64 2,.int .i64 wk,.int .i64 0,.slice none 0 0]:=Tr.close (u:=⟨none,0,0,0⟩) (i64_small (by decide) (by decide)) HWF.out (i64_small (by decide) (by decide)) (SlIn.nil (Nat.zero_le _) _ _ _)
 have hsz:(Tr.mk 2 wk 0 []).size=1:=by simp only [Tr.size_mk,sizes]
 rw [HGW.out]
 refine ⟨hmW,.inl ⟨by omega,⟨_,rfl,hcl⟩,?_⟩⟩
 rw [hsz]
 exact (HA.out.2.2.2.2.2.1.kept HM6.out.1 (by omega)).kept HY.out.2 (by omega)
def oneB (b:Bool):Int:=if b then 1 else 0
theorem gelse_any (kind:Int) (terms:List Trm) (hk:1<=kind/\kind<=9/\kind ≠ 3/\kind ≠ 4) (n:Int) (name:Bs) (binds:List Bnd) (l:List Frm) (fa:FrmA) (env:List Ev) (z:SlA) (s:Schl) (x:SchA) (w0 w:World) (mb left:Nat) (hf:SchFit s) (h0:Below w0.heap.size w0 w) (hmb0:w0.heap.size<=mb) (hs:SchIn w0 (·<w0.heap.size) s x) (hx:FrmIn w0 (·<w0.heap.size) (.mk kind name n terms binds l) fa) (hz:SlIn w (Off mb w) (env.map Ev.toD) z) (hI:ItoaAt) (hff:FrmFit (.mk kind name n terms binds l)) (hg:GG w0) (hmax:∀ e∈env,e.name.length<=4000000) (hel:env.length<=1500000) (hm:MkB w mb s x left) (hl:left<=65536) :
  Calls Tryz.prog 38 #[.pointer (some ⟨mb,0,none⟩),.slice z.a env.length z.cap,ndV (.mk kind name n terms binds l,fa)] w (TreeP s x mb left w (.mk 1 (oneB (evHolds s (firstW s) env (.mk kind name n terms binds l)).1) 0 [])):=by
 have hmlt:=hm.lt
 obtain ⟨W0,hW0⟩:∃ W0,W0=(w.alloc (.cells (fa.cells (.mk kind name n terms binds l)).toArray 34)).alloc (.cells #[.int .i64 0,.int .i64 0,.int .i64 0,.slice none 0 0] 39):=⟨_,rfl⟩
 have hb0:Below w.heap.size w W0:=by rw [hW0];exact ((Below.refl _ _).alloc (Nat.le_refl _) _).alloc (by simp) _
 have hz0:W0.heap.size=w.heap.size+2:=by rw [hW0];simp
 have hq0:FrmBox W0 w.heap.size (.mk kind name n terms binds l) fa:=by rw [hW0];unfold FrmBox;rw [heap_get,if_neg (by simp),heap_get,if_pos rfl]
 have hq1:W0.heap[w.heap.size+1]?=some (.cells #[.int .i64 0,.int .i64 0,.int .i64 0,.slice none 0 0] 39 (0,0)):=by rw [hW0,heap_get,if_pos (by simp)]
 have hmk0:MkB W0 mb s x left:=(hb0.block mb hmlt).trans hm
 have HB:=Lh (aI hb0 (aI hq0 (aI hq1 hz0)))
 have HW0:=Lh hW0
 have HM:=Lh (aI hm hl)
 have HX:=Lh (aI h0 (aI hmb0 (aI hx (aI hz (aI hf (aI hel hs))))))
 have hw0:=h0.size
 have HHD:=Lh (fun (y1:SlA) (W:World) (hb:Below w0.heap.size w0 W) (hz:SlIn W (·<W.heap.size) (env.map Ev.toD) z) (hy:SlIn W (·<W.heap.size) ((firstW s).map Plc.toD) y1)=>eholds_any s x (firstW s) y1 env z (.mk kind name n terms binds l) fa W hI hf hff (hg.below hb) (hs.later hb hb.size) hy (by simp only [firstW,List.length_replicate];have:=hf.lessons;omega) hz hel hmax (hx.later hb hb.size))
 have HFI:=Lh (fun (W:World) (hm:MkB W mb s x ((left:Int) - 1))=>first_any s x _ mb W hm hf.lessons)
 obtain ⟨bb,hbb⟩:∃ bb,(evHolds s (firstW s) env (.mk kind name n terms binds l)).1=bb:=⟨_,rfl⟩
 obtain ⟨bc,hbc⟩:∃ bc,(evHolds s (firstW s) env (.mk kind name n terms binds l)).2=bc:=⟨_,rfl⟩
 rw [hbb,hbc] at HHD
 have HBB:=Lh hbb
 have d14:decide ((14:Int)<=kind)=false:=by simp;omega
 have d10:decide ((10:Int)<=kind)=false:=by simp;omega
 have e10:(kind==10)=false:=by simp;omega
 have e11:(kind==11)=false:=by simp;omega
 have e12:(kind==12)=false:=by simp;omega
 have e13:(kind==13)=false:=by simp;omega
 have e14:(kind==14)=false:=by simp;omega
 have e15:(kind==15)=false:=by simp;omega
 have e16:(kind==16)=false:=by simp;omega
 have e17:(kind==17)=false:=by simp;omega
 have e3:(kind==3)=false:=by simp;omega
 have e4:(kind==4)=false:=by simp;omega
 have HKI:=Lh hk
 clear hbb hbc hw0 hI hff hg hmax hk
 obtain ⟨c0,c1,c2,c3,c4,c5⟩:=hq0.cells
 clear hb0 hq0 hq1 hW0 hm hl hz0 h0 hmb0 hx hz hel hs hf
 simp only [ndV,FrmA.cells,SlA.val,Frm.kind,Frm.name,Frm.n,Frm.terms,Frm.binds,Frm.l] at HHD HW0 c0 c1 c2 c3 c4 c5 ⊢
 go_enter Tryz.func38,Tryz.ntmps38
 go_wp2_with fail
 rw [<- HW0.out]
 go_wp2_with fail
 refine (part_any 1 none 0 0 s x left mb W0 hmk0 HM.out.2).mono ?_
 rintro e w2 ⟨hm2,⟨hp,rfl,hmk2⟩ | ⟨hp,rfl,hmk2⟩⟩
 rotate_left
 ·refine ⟨rfl,(Chalk.Mod.of_below (S:=fun k=>k=mb) HB.out.1).trans hm2 (fun _ _ h=>h),.inr ⟨?_,rfl,_,hmk2⟩⟩
  simp only [Tr.size_mk,sizes];omega
 clear c0 c1 c2 c3 c4 c5
 have hz2:=hm2.size
 have hz0:=HB.out.2.2.2
 have hz02:w.heap.size+2<=w2.heap.size:=by omega
 obtain ⟨WA,hWA⟩:∃ WA,WA=w2.alloc (.cells #[.int .i64 1,.int .i64 0,.int .i64 0,.slice none 0 0] 39):=⟨_,rfl⟩
 have hbA:Below w2.heap.size w2 WA:=by rw [hWA];exact (Below.refl _ _).alloc (Nat.le_refl _) _
 have hzA:WA.heap.size=w2.heap.size+1:=by rw [hWA];simp
 have hkA:WA.heap[w2.heap.size]?=some (.cells #[.int .i64 1,.int .i64 0,.int .i64 0,.slice none 0 0] 39 (0,0)):=by rw [hWA,heap_get,if_pos rfl]
 have q2:FrmBox w2 w.heap.size (.mk kind name n terms binds l) fa:=heap_kept HB.out.2.1 hm2 (by omega)
 have qA:FrmBox WA w.heap.size (.mk kind name n terms binds l) fa:=(hbA.block _ (by omega)).trans q2
 have r2:=heap_kept HB.out.2.2.1 hm2 (by omega)
 have rA:=(hbA.block _ (by omega)).trans r2
 have hmkA:MkB WA mb s x ((left:Int) - 1):=(hbA.block mb (by omega)).trans hmk2
 have hmw:Chalk.Mod (fun k=>k=mb) w WA:=((Chalk.Mod.of_below (S:=fun k=>k=mb) HB.out.1).trans hm2 (fun _ _ h=>h)).trans (Chalk.Mod.of_below (S:=fun k=>k=mb) hbA) (fun _ _ h=>h)
 have hb0A:Below w0.heap.size w0 WA:=HX.out.1.trans (hmw.below HX.out.1.size (fun k hk=>by have:=HX.out.2.1;omega))
 have hzwA:SlIn WA (·<WA.heap.size) (env.map Ev.toD) z:=(HX.out.2.2.2.1.agree (hmw.agree (fun k hk=>hk))).mono (fun k hk=>by have:=hk.1;omega)
 have HA:=Lh (aI hbA (aI hzA (aI hkA (aI qA (aI rA (aI hmkA (aI hmw (aI hb0A (aI hzwA hp)))))))))
 have hWA':w2.alloc (.cells #[.int .i64 1,.int .i64 0,.int .i64 0,.slice none 0 0] 39)=WA:=hWA.symm
 obtain ⟨c0,c1,c2,c3,c4,c5⟩:=q2.cells
 simp only [Frm.kind,Frm.terms] at c0 c3
 clear c1 c2 c4 c5 hbA hzA hkA q2 qA r2 rA hmkA hmw hb0A hzwA hp hm2 hmk2 hz2 hmk0 hWA
 have hwlt:w.heap.size<w2.heap.size:=by omega
 have HWA:=Lh hWA'
 clear hWA'
 go_wp2_with fail
 rw [HWA.out]
 have HKS:Hid (∀ w',Below WA.heap.size WA w'->w'.cell? ⟨mb,0,none⟩=some (.slice x.slots.a s.slots.length x.slots.cap)/\w'.cell? ⟨mb,1,none⟩=some (.slice x.rooms.a s.rooms.length x.rooms.cap)/\w'.cell? ⟨mb,2,none⟩=some (.slice x.people.a s.people.length x.people.cap)/\w'.cell? ⟨mb,3,none⟩=some (.slice x.groups.a s.groups.length x.groups.cap)/\w'.cell? ⟨mb,4,none⟩=some (.slice x.lessons.a s.lessons.length x.lessons.cap)/\w'.cell? ⟨w.heap.size,0,none⟩=some (.int .i64 kind)/\w'.cell? ⟨w.heap.size,1,none⟩=some (.string ⟨name.toArray⟩)/\w'.cell? ⟨w.heap.size,2,none⟩=some (.int .i64 n)/\w'.cell? ⟨w.heap.size,3,none⟩=some (.slice fa.t.a terms.length fa.t.cap)/\w'.cell? ⟨w.heap.size,4,none⟩=some (.slice fa.b.a binds.length fa.b.cap)/\w'.cell? ⟨w.heap.size,5,none⟩=some (.slice fa.l.a l.length fa.l.cap)):=Lh (fun w' hW=>by
  obtain ⟨m0,m1,m2,m3,m4,_,_⟩:=MkB.cells ((hW.block mb HA.out.2.2.2.2.2.1.lt).trans HA.out.2.2.2.2.2.1)
  obtain ⟨g0,g1,g2,g3,g4,g5⟩:=FrmBox.cells (HA.out.2.2.2.1.below hW)
  exact ⟨m0,m1,m2,m3,m4,g0,g1,g2,g3,g4,g5⟩)
 have hWAl:w2.heap.size<WA.heap.size:=by have:=HA.out.2.1;omega
 refine wp_region_U 13 (S:=fun w'=>w'.cell? ⟨mb,0,none⟩=some (.slice x.slots.a s.slots.length x.slots.cap)/\w'.cell? ⟨mb,1,none⟩=some (.slice x.rooms.a s.rooms.length x.rooms.cap)/\w'.cell? ⟨mb,2,none⟩=some (.slice x.people.a s.people.length x.people.cap)/\w'.cell? ⟨mb,3,none⟩=some (.slice x.groups.a s.groups.length x.groups.cap)/\w'.cell? ⟨mb,4,none⟩=some (.slice x.lessons.a s.lessons.length x.lessons.cap)/\w'.cell? ⟨w.heap.size,0,none⟩=some (.int .i64 kind)/\w'.cell? ⟨w.heap.size,1,none⟩=some (.string ⟨name.toArray⟩)/\w'.cell? ⟨w.heap.size,2,none⟩=some (.int .i64 n)/\w'.cell? ⟨w.heap.size,3,none⟩=some (.slice fa.t.a terms.length fa.t.cap)/\w'.cell? ⟨w.heap.size,4,none⟩=some (.slice fa.b.a binds.length fa.b.cap)/\w'.cell? ⟨w.heap.size,5,none⟩=some (.slice fa.l.a l.length fa.l.cap)) (by kernel_rfl) (HKS.out _ (Below.refl _ _).drew) (fun qH=>?_)
 refine tkU (i:=0) rfl qH ?_
 try simp only [Act.put,ub1,ub2,ub3]
 refine tkU (i:=1) rfl qH ?_
 try simp only [Act.put,ub1,ub2,ub3]
 refine tkU (i:=2) rfl qH ?_
 try simp only [Act.put,ub1,ub2,ub3]
 refine tkU (i:=3) rfl qH ?_
 try simp only [Act.put,ub1,ub2,ub3]
 refine tkU (i:=4) rfl qH ?_
 try simp only [Act.put,ub1,ub2,ub3]
 refine tkU (i:=6) rfl qH ?_
 try simp only [Act.put,ub1,ub2,ub3]
 refine tkU (i:=7) rfl qH ?_
 try simp only [Act.put,ub1,ub2,ub3]
 refine ready_U (rs:=[5]) (by kernel_rfl) (by simp) ?_
 refine cons_U rfl (fun K hK=>?_) nil_U
 go_simp
 go_at_call 35
 refine (HFI.out WA.drew HA.out.2.2.2.2.2.1).mono ?_
 rintro e w3 ⟨y1,rfl,hy,hb⟩
 have Hw3:=Lh (aI (Below.trans (Below.refl WA.heap.size WA).drew (hb.mono (Nat.le_refl _))) (hy.mono (fun k hk=>hk.2)))
 clear hb hy
 go_simp
 refine hK.out _ _ ?_ (fun qI=>?_)
 ·exact HKS.out _ Hw3.out.1
 clear hK K qH
 have qH:=qI
 clear qI
 try simp only [Act.put,ub1,ub2,ub3]
 refine ready_U (rs:=[8]) (by kernel_rfl) (by simp) ?_
 refine cons_U rfl (fun K hK=>?_) nil_U
 go_simp
 go_at_call 20
 refine (HHD.out y1 w3 (HA.out.2.2.2.2.2.2.2.1.trans (Hw3.out.1.mono HA.out.2.2.2.2.2.2.2.1.size)) (HA.out.2.2.2.2.2.2.2.2.1.later Hw3.out.1 Hw3.out.1.size) Hw3.out.2).mono ?_
 rintro e w5 ⟨rfl,hb⟩
 have Hw5:=Lh (Hw3.out.1.trans (hb.mono Hw3.out.1.size))
 clear hb
 go_simp
 refine hK.out _ _ ?_ (fun qI=>?_)
 ·exact HKS.out _ Hw5.out
 clear hK K qH
 have qH:=qI
 clear qI
 try simp only [Act.put,ub1,ub2,ub3]
 refine tkU (i:=9) rfl qH ?_
 try simp only [Act.put,ub1,ub2,ub3]
 refine tkU (i:=10) rfl qH ?_
 try simp only [Act.put,ub1,ub2,ub3]
 refine tkU (i:=11) rfl qH ?_
 try simp only [Act.put,ub1,ub2,ub3]
 refine tkU (i:=12) rfl qH ?_
 try simp only [Act.put,ub1,ub2,ub3]
 refine ready_U (rs:=[13]) (by kernel_rfl) (by simp) ?_
 refine cons_V rfl (by kernel_rfl) (fun K hK=>?_) nil_U
 go_simp
 refine hK.out _ _ ?_
 clear hK K
 try simp only [Act.put,ub1,ub2,ub3]
 refine done_U (by kernel_rfl) ?_ _
 clear qH
 cases bb
 ·have k5:=(Hw5.out.block w2.heap.size hWAl).trans HA.out.2.2.1
  obtain ⟨w6,hw6⟩:∃ w6,w6=w5:=⟨_,rfl⟩
  have k6:=k5
  have hm6:Chalk.Mod (fun k=>k=w2.heap.size) WA w5:=Chalk.Mod.of_below Hw5.out
  rw [<- hw6] at k6 hm6
  have q6:=heap_kept HA.out.2.2.2.2.1 hm6 (by omega)
  have HM6:=Lh (aI hm6 k6)
  have HQ6:=Lh q6
  have HW6:=Lh hw6
  clear hm6 k5 hw6 k6 q6
  have v0:=cH (i:=0) HM6.out.2 (v:=.int .i64 1) rfl
  have v1:=cH (i:=1) HM6.out.2 (v:=.int .i64 0) rfl
  have v2:=cH (i:=2) HM6.out.2 (v:=.int .i64 0) rfl
  have v3:=cH (i:=3) HM6.out.2 (v:=.slice none 0 0) rfl
  have x0:w6.cell? ⟨w.heap.size+1,0,none⟩=some (.int .i64 0):=cH HQ6.out rfl
  have f0:w6.frozen? ⟨w.heap.size+1,0,none⟩=false:=fH HQ6.out
  have x1:w6.cell? ⟨w.heap.size+1,1,none⟩=some (.int .i64 0):=cH HQ6.out rfl
  have f1:w6.frozen? ⟨w.heap.size+1,1,none⟩=false:=fH HQ6.out
  have x2:w6.cell? ⟨w.heap.size+1,2,none⟩=some (.int .i64 0):=cH HQ6.out rfl
  have f2:w6.frozen? ⟨w.heap.size+1,2,none⟩=false:=fH HQ6.out
  have x3:w6.cell? ⟨w.heap.size+1,3,none⟩=some (.slice none 0 0):=cH HQ6.out rfl
  have f3:w6.frozen? ⟨w.heap.size+1,3,none⟩=false:=fH HQ6.out
  have hlw6:w.heap.size+1<w6.heap.size:=(gS HQ6.out).1
  rw [HW6.out] at v0 v1 v2 v3 x0 x1 x2 x3 f0 f1 f2 f3 hlw6
  go_wp2_with fail
  rw [<- HW6.out]
  have hq3:=put4_heap HQ6.out (.int .i64 1) (.int .i64 0) (.int .i64 0) (.slice none 0 0)
  have hm3:=put4_mod w6 (w.heap.size+1) 0 (.int .i64 1) (.int .i64 0) (.int .i64 0) (.slice none 0 0)
  unfold put4 at hq3 hm3
  simp only [Nat.zero_add] at hq3 hm3
  generalize (((w6.setCell _ _).setCell _ _).setCell _ _).setCell _ _=W3 at hq3 hm3 ⊢
  have HY:=Lh (aI hq3 hm3)
  have y0:W3.cell? ⟨w.heap.size+1,0,none⟩=some (.int .i64 1):=cH hq3 rfl
  have y1:W3.cell? ⟨w.heap.size+1,1,none⟩=some (.int .i64 0):=cH hq3 rfl
  have y2:W3.cell? ⟨w.heap.size+1,2,none⟩=some (.int .i64 0):=cH hq3 rfl
  have y3:W3.cell? ⟨w.heap.size+1,3,none⟩=some (.slice none 0 0):=cH hq3 rfl
  clear hq3 hm3
  refine bodyPost_ret (v:=.agg #[.int .i64 1,.int .i64 0,.int .i64 0,.slice none 0 0]) (by simp [results,Tryz.results38,go_sem,y0,y1,y2,y3]) rfl ?_
  have hmW:Chalk.Mod (fun k=>k=mb) w W3:=HA.out.2.2.2.2.2.2.1.trans (((HM6.out.1.mono (T:=fun k=>k=w2.heap.size∨k=w.heap.size+1) (fun _ h=>.inl h)).trans HY.out.2 (fun _ _ h=>.inr h))) (fun k hk h=>by omega)
  have hp:=HA.out.2.2.2.2.2.2.2.2.2
  have hcl:DAt W3 (fun k=>w.heap.size<=k/\k<W3.heap.size) (Tr.mk 1 0 0 []).toD [.int .i64 1,.int .i64 0,.int .i64 0,.slice none 0 0]:=Tr.close (u:=⟨none,0,0,0⟩) (i64_small (by decide) (by decide)) (i64_small (by decide) (by decide)) (i64_small (by decide) (by decide)) (SlIn.nil (Nat.zero_le _) _ _ _)
  have hsz:(Tr.mk 1 0 0 []).size=1:=by simp only [Tr.size_mk,sizes]
  rw [HBB.out]
  show TreeP _ _ _ _ _ (Tr.mk 1 0 0 []) _ _
  refine ⟨hmW,.inl ⟨by omega,⟨_,rfl,hcl⟩,?_⟩⟩
  rw [hsz]
  exact (HA.out.2.2.2.2.2.1.kept HM6.out.1 (by omega)).kept HY.out.2 (by omega)
 ·have k5:=(Hw5.out.block w2.heap.size hWAl).trans HA.out.2.2.1
  have x1:w5.cell? ⟨w2.heap.size,1,none⟩=some (.int .i64 0):=cH k5 rfl
  have f1:w5.frozen? ⟨w2.heap.size,1,none⟩=false:=fH k5
  have hl5:=(gS k5).1
  have k6:=box_store (i:=1) (.int .i64 1) k5
  have hm6:Chalk.Mod (fun k=>k=w2.heap.size) WA (w5.setCell ⟨w2.heap.size,1,none⟩ (.int .i64 1)):=(Chalk.Mod.of_below (S:=fun k=>k=w2.heap.size) Hw5.out).setCell (p:=⟨w2.heap.size,1,none⟩) (fun _=>rfl) _
  obtain ⟨w6,hw6⟩:∃ w6,w6=w5.setCell ⟨w2.heap.size,1,none⟩ (.int .i64 1):=⟨_,rfl⟩
  rw [<- hw6] at k6 hm6
  have q6:=heap_kept HA.out.2.2.2.2.1 hm6 (by omega)
  have HM6:=Lh (aI hm6 k6)
  have HQ6:=Lh q6
  have HW6:=Lh hw6
  clear hm6 k5 hw6 k6 q6
  have v0:=cH (i:=0) HM6.out.2 (v:=.int .i64 1) rfl
  have v1:=cH (i:=1) HM6.out.2 (v:=.int .i64 1) rfl
  have v2:=cH (i:=2) HM6.out.2 (v:=.int .i64 0) rfl
  have v3:=cH (i:=3) HM6.out.2 (v:=.slice none 0 0) rfl
  have x0:w6.cell? ⟨w.heap.size+1,0,none⟩=some (.int .i64 0):=cH HQ6.out rfl
  have f0:w6.frozen? ⟨w.heap.size+1,0,none⟩=false:=fH HQ6.out
  have x1':w6.cell? ⟨w.heap.size+1,1,none⟩=some (.int .i64 0):=cH HQ6.out rfl
  have f1':w6.frozen? ⟨w.heap.size+1,1,none⟩=false:=fH HQ6.out
  have x2:w6.cell? ⟨w.heap.size+1,2,none⟩=some (.int .i64 0):=cH HQ6.out rfl
  have f2:w6.frozen? ⟨w.heap.size+1,2,none⟩=false:=fH HQ6.out
  have x3:w6.cell? ⟨w.heap.size+1,3,none⟩=some (.slice none 0 0):=cH HQ6.out rfl
  have f3:w6.frozen? ⟨w.heap.size+1,3,none⟩=false:=fH HQ6.out
  have hlw6:w.heap.size+1<w6.heap.size:=(gS HQ6.out).1
  rw [HW6.out] at v0 v1 v2 v3 x0 x1' x2 x3 f0 f1' f2 f3 hlw6
  go_wp2_with fail
  rw [<- HW6.out]
  have hq3:=put4_heap HQ6.out (.int .i64 1) (.int .i64 1) (.int .i64 0) (.slice none 0 0)
  have hm3:=put4_mod w6 (w.heap.size+1) 0 (.int .i64 1) (.int .i64 1) (.int .i64 0) (.slice none 0 0)
  unfold put4 at hq3 hm3
  simp only [Nat.zero_add] at hq3 hm3
  generalize (((w6.setCell _ _).setCell _ _).setCell _ _).setCell _ _=W3 at hq3 hm3 ⊢
  have HY:=Lh (aI hq3 hm3)
  have y0:W3.cell? ⟨w.heap.size+1,0,none⟩=some (.int .i64 1):=cH hq3 rfl
  have y1:W3.cell? ⟨w.heap.size+1,1,none⟩=some (.int .i64 1):=cH hq3 rfl
  have y2:W3.cell? ⟨w.heap.size+1,2,none⟩=some (.int .i64 0):=cH hq3 rfl
  have y3:W3.cell? ⟨w.heap.size+1,3,none⟩=some (.slice none 0 0):=cH hq3 rfl
  clear hq3 hm3
  refine bodyPost_ret (v:=.agg #[.int .i64 1,.int .i64 1,.int .i64 0,.slice none 0 0]) (by simp [results,Tryz.results38,go_sem,y0,y1,y2,y3]) rfl ?_
  have hmW:Chalk.Mod (fun k=>k=mb) w W3:=HA.out.2.2.2.2.2.2.1.trans (((HM6.out.1.mono (T:=fun k=>k=w2.heap.size∨k=w.heap.size+1) (fun _ h=>.inl h)).trans HY.out.2 (fun _ _ h=>.inr h))) (fun k hk h=>by omega)
  have hp:=HA.out.2.2.2.2.2.2.2.2.2
  have hcl:DAt W3 (fun k=>w.heap.size<=k/\k<W3.heap.size) (Tr.mk 1 1 0 []).toD [.int .i64 1,.int .i64 1,.int .i64 0,.slice none 0 0]:=Tr.close (u:=⟨none,0,0,0⟩) (i64_small (by decide) (by decide)) (i64_small (by decide) (by decide)) (i64_small (by decide) (by decide)) (SlIn.nil (Nat.zero_le _) _ _ _)
  have hsz:(Tr.mk 1 1 0 []).size=1:=by simp only [Tr.size_mk,sizes]
  rw [HBB.out]
  show TreeP _ _ _ _ _ (Tr.mk 1 1 0 []) _ _
  refine ⟨hmW,.inl ⟨by omega,⟨_,rfl,hcl⟩,?_⟩⟩
  rw [hsz]
  exact (HA.out.2.2.2.2.2.1.kept HM6.out.1 (by omega)).kept HY.out.2 (by omega)
end Go.Proofs.YtjjkfgjnadaheaaGreatDoor
namespace Go.Chalk
theorem may_names {s:Schl} {env:List Ev} (h:evMay s env=true):∀ e∈env,e.name.length<=4000000:=fun e he=>by
 have h1:=evMay_mayA h
 unfold mayA at h1
 obtain ⟨i,hi,rfl⟩:=List.mem_iff_getElem.1 he
 have h2:=List.all_eq_true.1 h1 i (List.mem_range.2 (by simpa [evBinds] using hi))
 have h3:(evBinds env)[i]?=some ⟨env[i].name,env[i].sort⟩:=by simp [evBinds,hi]
 rw [h3] at h2
 simp only [Bool.and_eq_true] at h2
 have h4:=h2.1
 unfold bndOk at h4
 simp only [Bool.and_eq_true] at h4
 have h5:=h4.1.1
 unfold frmNamed at h5
 generalize env[i].name=nm at h5 ⊢
 match nm,h5 with
 | [],h=>cases h
 | c :: r,h =>
  simp only [Bool.and_eq_true,decide_eq_true_eq] at h
  omega
theorem withF_len (env:List Ev) (l:List Bnd) (t:List Nat):(withF env l t).length<=env.length+l.length:=by
 unfold withF;simp;omega
theorem gtAt_one (s:Schl) (env:List Ev) (g:Frm):gtAt s env [g] 0=gtF s env g:=by rw [gtAt]
end Go.Chalk
namespace Go.Proofs.YtjjkfgjnadaheaaGreatDoor
open Go.RowKit Go.Chalk
theorem FrmFit.kidG {kind n:Int} {name:Bs} {terms:List Trm} {binds:List Bnd} {l:List Frm} (h:FrmFit (.mk kind name n terms binds l)) {g:Frm} (hg:g∈l):FrmFit g:=by
 have hs:=h.size
 rw [Frm.size] at hs
 have hm:=fsizes_mem l g hg
 refine ⟨by omega,fun q hq=>h.nodes q ?_⟩
 rw [nodesF]
 refine List.mem_cons_of_mem _ ?_
 clear hs hm h
 induction l with
 | nil=>cases hg
 | cons a r ih =>
  rw [nodesL]
  rcases List.mem_cons.1 hg with rfl | hg
  ·exact List.mem_append_left _ hq
  ·exact List.mem_append_right _ (ih hg)
theorem gtree_any (w0:World) (s:Schl) (x:SchA) (hI:ItoaAt) (hf:SchFit s) (hs:SchIn w0 (·<w0.heap.size) s x) (hg:GG w0):∀ (m:Nat) (f:Frm) (fa:FrmA) (env:List Ev) (z:SlA) (w:World) (mb left:Nat),f.size<=m->HoldsOk s (firstW s) env f->FrmFit f->env.length+6*f.depth<=1400000->left<=65536 ->
  Below w0.heap.size w0 w->w0.heap.size<=mb->MkB w mb s x left->FrmIn w0 (·<w0.heap.size) f fa->SlIn w (Off mb w) (env.map Ev.toD) z ->
  Calls Tryz.prog 38 #[.pointer (some ⟨mb,0,none⟩),.slice z.a env.length z.cap,ndV (f,fa)] w (TreeP s x mb left w (gtF s env f)):=by
 intro m
 induction m with
 | zero=>intro f _ _ _ _ _ _ h;have:=f.size_pos;omega
 | succ m ih =>
  rintro ⟨kind,name,n,terms,binds,l⟩ fa env z w mb left hm h hff hd hl h0 hmb0 hmk hx hz
  rw [Frm.size] at hm
  rw [Frm.depth] at hd
  have hfo:formedF (.mk kind name n terms binds l)=true:=(node_formed.1 h.formed).1
  obtain ⟨p1,p2,p3,p4,p5⟩:=parts_of hfo
  have hsz:∀ q∈l,q.size<=m:=fun q hq=>by have:=(fsizes_mem l q hq).1;omega
  have hdp:∀ q∈l,q.depth+1<=fdepths l+1:=fun q hq=>by
   obtain ⟨i,hi,rfl⟩:=List.mem_iff_getElem.1 hq
   have:=depth_le_fdepths l i hi;omega
  have hel:env.length<=1500000:=by omega
  rcases arity_cases p1 with ⟨hl0,hk⟩ | ⟨hl1,rfl⟩ | ⟨hl2,hk⟩ | ⟨hl1,hk⟩
  ·obtain rfl:=List.length_eq_zero_iff.1 hl0
   by_cases h3:kind=3
   ·subst h3
    obtain ⟨t,u,rfl⟩:=formed_atom (by decide) hfo
    have e:=gat_any t u n name binds [] fa env z s x w0 w mb left hf h0 hmb0 hs hx hz hel hmk hl
    rw [plOf_eq (evMay_mayA h.may),plOf_eq (evMay_mayA h.may)] at e
    rw [gtF]
    simpa using e
   by_cases h4:kind=4
   ·subst h4
    obtain ⟨t,u,rfl⟩:=formed_atom (by decide) hfo
    have e:=gin_any t u n name binds [] fa env z s x w0 w mb left hf h0 hmb0 hs hx hz hel hmk hl
    rw [plOf_eq (evMay_mayA h.may),plOf_eq (evMay_mayA h.may)] at e
    rw [gtF]
    simpa using e
   have e:=gelse_any kind terms ⟨by omega,by omega,h3,h4⟩ n name binds [] fa env z s x w0 w mb left hf h0 hmb0 hs hx hz hI hff hg (may_names h.may) hel hmk hl
   rw [gtF,if_neg (by omega),if_neg (by omega),if_neg (by omega),if_neg (by omega),if_neg (by omega),if_neg (by omega),if_neg (by omega),if_neg (by omega),if_neg h3,if_neg h4]
   exact e
  ·have ht:terms=[]:=by rcases p2 with h | h;exact h;unfold atomK at h;simp at h
   have hb:binds=[]:=by rcases p3 with h | h;exact h;unfold quantK at h;simp at h
   subst ht;subst hb
   rw [gtF,if_pos rfl]
   refine gnot_any n name [] [] l fa env z s x w0 w mb left (gtL s env l) (by rw [gtL_eq,List.length_map]) h0 hmb0 hx hz hmk hl (by omega) (fun j hj t y1 W lf ht hb hlf hmk' hy hz'=>?_)
   rw [gtL_eq,List.getElem?_map,List.getElem?_eq_getElem hj] at ht
   cases ht
   exact ih l[j] y1 env z W mb lf (hsz _ (List.getElem_mem hj)) (h.kid (List.getElem_mem hj)) (hff.kidG (List.getElem_mem hj)) (by have:=hdp _ (List.getElem_mem hj);omega) (by omega) hb hmb0 hmk' hy hz'
  ·have ht:terms=[]:=by rcases p2 with h | h;exact h;unfold atomK at h;simp at h;omega
   have hb:binds=[]:=by rcases p3 with h | h;exact h;unfold quantK at h;simp at h;omega
   subst ht;subst hb
   obtain ⟨a,b,rfl⟩:=len_two hl2.symm.symm
   have hk':∀ (j:Nat) (hj:j<[a,b].length) (t:Tr) (y1:FrmA) (W:World) (lf:Nat),(gtL s env [a,b])[j]?=some t->Below w0.heap.size w0 W->lf<=left->MkB W mb s x lf->FrmIn w0 (·<w0.heap.size) ([a,b][j]) y1->SlIn W (Off mb W) (env.map Ev.toD) z ->
     Calls Tryz.prog 38 #[.pointer (some ⟨mb,0,none⟩),.slice z.a env.length z.cap,ndV ([a,b][j],y1)] W (TreeP s x mb lf W t):=fun j hj t y1 W lf ht hb hlf hmk' hy hz'=>by
    rw [gtL_eq,List.getElem?_map,List.getElem?_eq_getElem hj] at ht
    cases ht
    exact ih [a,b][j] y1 env z W mb lf (hsz _ (List.getElem_mem hj)) (h.kid (List.getElem_mem hj)) (hff.kidG (List.getElem_mem hj)) (by have:=hdp _ (List.getElem_mem hj);omega) (by omega) hb hmb0 hmk' hy hz'
   rcases hk with rfl | rfl | rfl
   ·rw [gtF,if_neg (by decide),if_pos rfl]
    exact gand_any n name [] [] [a,b] fa env z s x w0 w mb left (gtL s env [a,b]) (by rw [gtL_eq,List.length_map]) h0 hmb0 hx hz hmk hl (by simp) hk'
   ·rw [gtF,if_neg (by decide),if_neg (by decide),if_pos rfl]
    exact gor_any n name [] [] [a,b] fa env z s x w0 w mb left (gtL s env [a,b]) (by rw [gtL_eq,List.length_map]) h0 hmb0 hx hz hmk hl (by simp) hk'
   ·have e:=gimp_any n name [] [] [a,b] fa env z s x w0 w mb left (gtL s env [a,b]) (by rw [gtL_eq,List.length_map]) (gtF s env a) (gtF s env b) (by rw [gtL,gtL,gtL]) h0 hmb0 hx hz hmk hl (by simp) hk'
    rw [gtF,if_neg (by decide),if_neg (by decide),if_neg (by decide),if_pos rfl,gtAt,gtAt,gtAt]
    exact e
  ·have ht:terms=[]:=by rcases p2 with h | h;exact h;unfold atomK at h;simp at h;omega
   subst ht
   obtain ⟨g,rfl⟩:=List.length_eq_one_iff.1 hl1.symm.symm
   have hq:quantK kind=true:=by unfold quantK;simp;omega
   have hfq:=hfo
   rw [formed_quant hq] at hfq
   simp only [Bool.and_eq_true,decide_eq_true_eq] at hfq
   have hbk:binds.all bndOk=true:=hfq.2.1.2
   have hbl:binds.length<=6:=hfq.2.1.1.2
   have hnb:numberB n=true:=hfq.2.2
   have hnn:0<=n/\n<=1099511627776:=by unfold numberB at hnb;simp at hnb;omega
   have hmany:(tuplesF (sizesF s binds)).length<=1048576:=by
    have h1:=(h.inst hbk).1
    rw [manyF_tuples h1];exact h1
   have hE:∀ W,Below w.heap.size w W->Calls Tryz.prog 80 #[.pointer (some ⟨mb,0,none⟩),.slice z.a env.length z.cap,ndV (.mk kind name n [] binds [g],fa)] W (EachP s x mb left W ((tuplesF (sizesF s binds)).map (fun t=>gtAt s (withF env binds t) [g] 0))):=fun W hW=>by
    refine geach_any w0 s x env z kind n name [] binds g fa W mb left hI hf.toSchSmall hs (h0.trans (hW.mono h0.size)) hmb0 ((hW.block mb hmk.lt).trans hmk) hx ((hz.agree (fun k hk=>hW.block k hk.1)).mono (fun k hk=>⟨by have:=hk.1;have:=hW.size;omega,hk.2⟩)) (by omega) hmany _ (fun t ht y1 z1 W1 lf hb hlf hmk' hy hz'=>?_)
    rw [gtAt_one]
    exact ih g y1 (withF env binds t) z1 W1 mb lf (hsz g (by simp)) ((h.inst hbk).2 t ht) (hff.kidG (by simp)) (by have:=hdp g (by simp);have:=withF_len env binds t;omega) (by omega) hb hmb0 hmk' hy hz'
   rcases hk with rfl | rfl | rfl | rfl
   ·rw [gtF];simp only [Int.reduceEq,↓reduceIte]
    exact gall_any n name [] binds [g] fa env z s x w mb left _ hnn hmk hl hE
   ·rw [gtF];simp only [Int.reduceEq,↓reduceIte]
    exact gsome_any n name [] binds [g] fa env z s x w mb left _ hnn hmk hl hE
   ·rw [gtF];simp only [Int.reduceEq,↓reduceIte]
    exact gleast_any n name [] binds [g] fa env z s x w mb left _ hnn hmk hl hE
   ·rw [gtF];simp only [Int.reduceEq,↓reduceIte]
    exact gmost_any n name [] binds [g] fa env z s x w mb left _ hnn hmk hl hE
theorem gcatch_idle (p:Addr) (w:World) :
  CallsD Tryz.prog 79 #[.pointer (some p)] .returning w fun e u' w'=>e=.returned (.tuple #[])/\u'=.returning/\w'=w:=by
 refine callsD_of_wpS Tryz.func79 rfl fun c₀ cs hu=>?_
 apply wpS_seq
 apply wpS_region
 simp [wpOpsS,go_sem,recoverD,hu,Tryz.ntmps79,Exit.thenS]
 refine wpS_of_wp ?_
 go_wp2
 cases c₀
 simp_all [bodyPostS,results,Tryz.results79]
theorem gcatch_full (b:Nat) (v0:Bool) (w:World) (h:w.heap[b]?=some (.cells #[.bool v0] 4 (0,0))) :
  CallsD Tryz.prog 79 #[.pointer (some ⟨b,0,none⟩)] (.panicking (fullP 151)) w fun e u' w' =>
   e=.returned (.tuple #[])/\u'=.panicking [{ v:=.iface 151 (.agg #[]),recovered:=true }]/\Chalk.Mod (fun k=>k=b) w w'/\w'.heap[b]?=some (.cells #[.bool false] 4 (0,0)):=by
 have lb:=(gS h).1
 have c0:w.cell? ⟨b,0,none⟩=some (.bool v0):=cH h rfl
 have f0:w.frozen? ⟨b,0,none⟩=false:=fH h
 have H:=Lh h
 clear h
 have hta:∀ W:World,(Instr.typeAssert (.iface 151 (.agg #[])) 20 151 true).run Tryz.prog W=.ok (.tuple #[.agg #[],.bool true]) W:=fun W=>by rfl
 unfold fullP
 refine callsD_of_wpS Tryz.func79 rfl fun c₀ cs hu=>?_
 apply wpS_seq
 apply wpS_region
 simp [wpOpsS,go_sem,recoverD,hu,Tryz.ntmps79,Exit.thenS]
 refine wpS_of_wp ?_
 rw [show (Array.replicate 9 undef:Array Value)=#[undef,undef,undef,undef,undef,undef,undef,undef,undef] from rfl]
 simp only [List.setIfInBounds_toArray,List.set_cons_zero,List.set_cons_succ,List.append_toArray,List.cons_append,List.nil_append]
 go_wp2_with fail
 exact ⟨rfl,_,rfl,.tuple #[],by simp [results,Tryz.results79],rfl,rfl,((Chalk.Mod.refl (fun k=>k=b) w).setCell (p:=⟨b,0,none⟩) (fun _=>rfl) _).alloc _,(Below.heap_alloc _ _ _ (by simpa using lb)).trans (box_store (i:=0) (.bool false) H.out)⟩
def MadeR (S:Nat->Prop) (Good Bad:World->Prop) (w:World) (e:Ending) (w':World):Prop:=Chalk.Mod S w w'/\((e=.returned (.bool true)/\Good w')∨(e=.returned (.bool false)/\Bad w'))
theorem gmade_any (s:Schl) (x:SchA) (F:Nat) (lb:Array Value) (w:World) (S:Nat->Prop) (Good Bad:World->Prop) (hFe:∀ args w,(callFunc F args).run Tryz.prog w=.ok (.enter F args) w)
  (hG:∀ W W',Good W->Chalk.Mod (fun k=>k=w.heap.size+1) W W'->Good W') (hB:∀ W W',Bad W->Chalk.Mod (fun k=>k=w.heap.size+1) W W'->Bad W') (hSl:∀ k,S k->k<w.heap.size)
  (hcall:∀ W,Below w.heap.size w W->MkB W (w.heap.size+1+1) s x 65536->Calls Tryz.prog F (#[.pointer (some ⟨w.heap.size+1+1,0,none⟩)]++lb) W fun e W'=>Chalk.Mod (fun k=>S k∨k=w.heap.size+1+1) W W'/\((e=.returned (.tuple #[])/\Good W')∨(e=.panicked (fullP 151)/\Bad W'))) :
  Calls Tryz.prog 36 #[.agg (x.cells s).toArray,.func (.func F) #[] lb] w (MadeR S Good Bad w):=by
 obtain ⟨W0,hW0⟩:∃ W0,W0=((w.alloc (.cells (x.cells s).toArray 28)).alloc (.cells #[.bool false] 4)).alloc (.cells #[.slice x.slots.a s.slots.length x.slots.cap,.slice x.rooms.a s.rooms.length x.rooms.cap,.slice x.people.a s.people.length x.people.cap,.slice x.groups.a s.groups.length x.groups.cap,.slice x.lessons.a s.lessons.length x.lessons.cap,.int .i64 65536] 80):=⟨_,rfl⟩
 have hb0:Below w.heap.size w W0:=by rw [hW0];exact (((Below.refl _ _).alloc (Nat.le_refl _) _).alloc (by simp) _).alloc (by simp;omega) _
 have hz0:W0.heap.size=w.heap.size+3:=by rw [hW0];simp
 have hok:W0.heap[w.heap.size+1]?=some (.cells #[.bool false] 4 (0,0)):=by rw [hW0,heap_get,if_neg (by simp),heap_get,if_pos (by simp)]
 have hmk:MkB W0 (w.heap.size+1+1) s x 65536:=by unfold MkB;rw [hW0,heap_get,if_pos (by simp)]
 have HC:=Lh (hcall W0 hb0 hmk)
 have HB:=Lh (aI hb0 (aI hz0 (aI hok (aI hG (aI hB hSl)))))
 have HW0:=Lh hW0
 have hmf:∀ (fn:Fn) (first cap:Array Value) (w:World),(Instr.makeFunc fn first cap).run Tryz.prog w=.ok (.func fn first cap) w:=fun _ _ _ _=>rfl
 clear hcall hG hB hb0 hz0 hok hmk hW0 hSl
 simp only [SchA.cells,SlA.val] at HW0 ⊢
 go_enter_defers Tryz.func36,Tryz.ntmps36
 go_wp2_with fail
 rw [<- HW0.out]
 refine HC.out.mono ?_
 rintro e w1 ⟨hm,⟨rfl,hg⟩ | ⟨rfl,hg⟩⟩
 ·have hsz:=hm.size
  have k1:=heap_kept HB.out.2.2.1 hm (by rintro (h | h);have:=HB.out.2.2.2.2.2 _ h;omega;omega)
  have c1:w1.cell? ⟨w.heap.size+1,0,none⟩=some (.bool false):=cH k1 rfl
  have f1:w1.frozen? ⟨w.heap.size+1,0,none⟩=false:=fH k1
  have l1:=(gS k1).1
  have H1:=Lh (aI k1 (aI hm (aI hg hsz)))
  clear k1 hm hg hsz
  go_wp2_with fail
  have k2:=box_store (i:=0) (.bool true) H1.out.1
  have hm2:Chalk.Mod (fun k=>k=w.heap.size+1) w1 (w1.setCell ⟨w.heap.size+1,0,none⟩ (.bool true)):=(Chalk.Mod.refl (fun k=>k=w.heap.size+1) w1).setCell (p:=⟨w.heap.size+1,0,none⟩) (fun _=>rfl) _
  generalize w1.setCell ⟨w.heap.size+1,0,none⟩ (.bool true)=w2 at k2 hm2 ⊢
  refine leaves_cons (f:=79) (args:=#[.pointer (some ⟨w.heap.size+1,0,none⟩)]) (by simp) (by simp [go_sem]) ?_
  refine (gcatch_idle _ w2).mono ?_
  rintro e u' w5 ⟨rfl,rfl,rfl⟩
  have c5:w5.cell? ⟨w.heap.size+1,0,none⟩=some (.bool true):=cH k2 rfl
  have hR:MadeR S Good Bad w (.returned (.bool true)) w5:=by
   have hz0:=HB.out.2.1
   refine ⟨((Chalk.Mod.of_below (S:=S) HB.out.1).trans H1.out.2.1 (fun k hk h=>?_)).trans hm2 (fun k hk h=>by omega),.inl ⟨rfl,HB.out.2.2.2.1 _ _ H1.out.2.2.1 hm2⟩⟩
   rcases h with h | h
   ·exact h
   ·omega
  simp only [Leaves,settle]
  refine ⟨_,?_,hR⟩
  simp [results,Tryz.results36,go_sem,c5]
 ·have hsz:=hm.size
  have k1:=heap_kept HB.out.2.2.1 hm (by rintro (h | h);have:=HB.out.2.2.2.2.2 _ h;omega;omega)
  refine leaves_cons (f:=79) (args:=#[.pointer (some ⟨w.heap.size+1,0,none⟩)]) (by simp) (by simp [go_sem]) ?_
  refine (gcatch_full (w.heap.size+1) false w1 k1).mono ?_
  rintro e u' w5 ⟨rfl,rfl,hm5,hk5⟩
  have c5:w5.cell? ⟨w.heap.size+1,0,none⟩=some (.bool false):=cH hk5 rfl
  have hR:MadeR S Good Bad w (.returned (.bool false)) w5:=by
   have hz0:=HB.out.2.1
   refine ⟨((Chalk.Mod.of_below (S:=S) HB.out.1).trans hm (fun k hk h=>?_)).trans hm5 (fun k hk h=>by omega),.inr ⟨rfl,HB.out.2.2.2.2.1 _ _ hg hm5⟩⟩
   rcases h with h | h
   ·exact h
   ·omega
  simp only [Leaves,settle]
  refine ⟨_,?_,hR⟩
  simp [results,Tryz.results36,go_sem,c5]
end Go.Proofs.YtjjkfgjnadaheaaGreatDoor
namespace Go.Chalk
open Go.RowKit
def zeroTr:Tr:=.mk 0 0 0 []
def gTreeF (s:Schl) (env:List Ev) (f:Frm):Tr×Int :=
 if (evHolds s (firstW s) env f).2 ≠ 0 then (zeroTr,(evHolds s (firstW s) env f).2) else if (gtF s env f).size<=65536 then (gtF s env f,0) else (zeroTr,2)
theorem zeroTr_at {W:World} {F:Nat->Prop}:DAt W F zeroTr.toD [.int .i64 0,.int .i64 0,.int .i64 0,.slice none 0 0]:=Tr.close (u:=⟨none,0,0,0⟩) (i64_small (by decide) (by decide)) (i64_small (by decide) (by decide)) (i64_small (by decide) (by decide)) (SlIn.nil (Nat.zero_le _) _ _ _)
end Go.Chalk
namespace Go.Proofs.YtjjkfgjnadaheaaGreatDoor
open Go.RowKit Go.Chalk
attribute [local go_sem] Oper.semAt_some
def TopGood (B xb:Nat) (t:Tr) (W:World):Prop:=t.size<=65536/\∃ k0 k1 k2 a n cap,W.heap[xb]?=some (.cells #[.int .i64 k0,.int .i64 k1,.int .i64 k2,.slice a n cap] 39 (0,0))/\DAt W (fun k=>B<=k/\k<W.heap.size) t.toD [.int .i64 k0,.int .i64 k1,.int .i64 k2,.slice a n cap]
theorem TopGood.kept {B xb c:Nat} {t:Tr} {W W':World} (h:TopGood B xb t W) (hm:Chalk.Mod (fun k=>k=c) W W') (hcB:c<B) (hcx:c ≠ xb):TopGood B xb t W':=by
 obtain ⟨h1,k0,k1,k2,a,n,cap,h2,h3⟩:=h
 have hz:=hm.size
 exact ⟨h1,k0,k1,k2,a,n,cap,heap_kept h2 hm (fun h=>hcx h.symm),DAt.mono (fun k hk=>⟨hk.1,by omega⟩) _ _ (DAt.agree (hm.agree (fun k hk=>⟨hk.2,by have:=hk.1;omega⟩)) _ _ h3)⟩
theorem TopGood.low {B B' xb:Nat} {t:Tr} {W:World} (h:TopGood B xb t W) (hB:B'<=B):TopGood B' xb t W:=by
 obtain ⟨h1,k0,k1,k2,a,n,cap,h2,h3⟩:=h
 exact ⟨h1,k0,k1,k2,a,n,cap,h2,DAt.mono (fun k hk=>⟨by omega,hk.2⟩) _ _ h3⟩
theorem gtree1_any (w0:World) (s:Schl) (x:SchA) (f:Frm) (fa:FrmA) (env:List Ev) (z:SlA) (w:World) (mb eb fb xb:Nat) (hI:ItoaAt) (hf:SchFit s) (hs:SchIn w0 (·<w0.heap.size) s x) (hg:GG w0) (ho:HoldsOk s (firstW s) env f) (hff:FrmFit f) (hel:env.length<=1200000)
  (h0:Below w0.heap.size w0 w) (hmb0:w0.heap.size<=mb) (hm:MkB w mb s x (65536:Nat)) (hx:FrmIn w0 (·<w0.heap.size) f fa) (hz:SlIn w0 (·<w0.heap.size) (env.map Ev.toD) z)
  (he:w.heap[eb]?=some (.cells #[.slice z.a env.length z.cap] 29 (0,0))) (hfb:FrmBox w fb f fa) (hxb:w.heap[xb]?=some (.cells #[.int .i64 0,.int .i64 0,.int .i64 0,.slice none 0 0] 39 (0,0))) (hxm:xb ≠ mb) :
  Calls Tryz.prog 37 #[.pointer (some ⟨mb,0,none⟩),.pointer (some ⟨eb,0,none⟩),.pointer (some ⟨fb,0,none⟩),.pointer (some ⟨xb,0,none⟩)] w fun e w'=>Chalk.Mod (fun k=>k=xb∨k=mb) w w'/\((e=.returned (.tuple #[])/\TopGood w.heap.size xb (gtF s env f) w')∨(e=.panicked (fullP 151)/\65536<(gtF s env f).size)):=by
 have hmlt:=hm.lt
 have HT:=Lh (gtree_any w0 s x hI hf hs hg f.size f fa env z w mb 65536 (Nat.le_refl _) ho hff (by have:=ho.depth;omega) (Nat.le_refl _) h0 hmb0 hm hx ((hz.agree (agree_of_below h0)).mono (fun k hk=>⟨by have:=h0.size;omega,by omega⟩)))
 have c0:w.cell? ⟨eb,0,none⟩=some (.slice z.a env.length z.cap):=cH he rfl
 obtain ⟨f0,f1,f2,f3,f4,f5⟩:=hfb.cells
 have HX:=Lh (aI hxb hxm)
 clear hI hf hs hg ho hff hel h0 hmb0 hm hx hz he hfb hxb hxm
 generalize gtF s env f=t at HT ⊢
 simp only [ndV,FrmA.cells,SlA.val] at HT f0 f1 f2 f3 f4 f5
 go_enter Tryz.func37,Tryz.ntmps37
 go_wp2_with fail
 refine HT.out.mono ?_
 rintro e w1 ⟨hm1,⟨hle,⟨cs,rfl,hd⟩,hmk⟩ | ⟨hlt,rfl,l',hmk⟩⟩
 rotate_left
 ·exact ⟨rfl,hm1.mono (fun _ h=>.inr h),.inr ⟨rfl,hlt⟩⟩
 have hl4:=DAt.length _ _ hd
 rw [Tr.width] at hl4
 obtain ⟨d0,d1,d2,d3,rfl⟩:=len_four hl4
 obtain ⟨tk0,tk1,tk2,ta,tn,tcap,rfl,rfl,rfl,rfl⟩:=TreeV.shape hd
 have k1:=heap_kept HX.out.1 hm1 HX.out.2
 have x0:w1.cell? ⟨xb,0,none⟩=some (.int .i64 0):=cH k1 rfl
 have y0:w1.frozen? ⟨xb,0,none⟩=false:=fH k1
 have x1:w1.cell? ⟨xb,1,none⟩=some (.int .i64 0):=cH k1 rfl
 have y1:w1.frozen? ⟨xb,1,none⟩=false:=fH k1
 have x2:w1.cell? ⟨xb,2,none⟩=some (.int .i64 0):=cH k1 rfl
 have y2:w1.frozen? ⟨xb,2,none⟩=false:=fH k1
 have x3:w1.cell? ⟨xb,3,none⟩=some (.slice none 0 0):=cH k1 rfl
 have y3:w1.frozen? ⟨xb,3,none⟩=false:=fH k1
 have hlx:=(gS k1).1
 have HD:=Lh (aI hd (aI hm1 (aI hle k1)))
 have hwl:xb<w.heap.size:=(gS HX.out.1).1
 clear hd hm1 hle hmk k1 hl4 c0 f0 f1 f2 f3 f4 f5
 go_wp2_with fail
 go_end0
 have k2:=put4_heap HD.out.2.2.2 (.int .i64 tk0) (.int .i64 tk1) (.int .i64 tk2) (.slice ta tn tcap)
 have hm2:=put4_mod w1 xb 0 (.int .i64 tk0) (.int .i64 tk1) (.int .i64 tk2) (.slice ta tn tcap)
 unfold put4 at k2 hm2
 simp only [Nat.zero_add] at k2 hm2
 refine ⟨(HD.out.2.1.mono (fun _ h=>.inr h)).trans hm2 (fun _ _ h=>.inl h),.inl ⟨rfl,HD.out.2.2.1,tk0,tk1,tk2,ta,tn,tcap,k2,?_⟩⟩
 have hz:=hm2.size
 exact DAt.mono (fun k hk=>⟨hk.1,by have:=hk.2;omega⟩) _ _ (DAt.agree (hm2.agree (fun k hk=>⟨hk.2,by have:=hk.1;omega⟩)) _ _ HD.out.1)
def TopP (w:World) (r:Tr×Int) (e:Ending) (w':World):Prop:=∃ k0 k1 k2 a n cap,e=.returned (.tuple #[.agg #[.int .i64 k0,.int .i64 k1,.int .i64 k2,.slice a n cap],.int .i64 r.2])/\DAt w' (fun k=>w.heap.size<=k/\k<w'.heap.size) r.1.toD [.int .i64 k0,.int .i64 k1,.int .i64 k2,.slice a n cap]/\Below w.heap.size w w'
theorem gTree_any (s:Schl) (x:SchA) (f:Frm) (fa:FrmA) (env:List Ev) (z:SlA) (w:World) (hI:ItoaAt) (hf:SchFit s) (hs:SchIn w (·<w.heap.size) s x) (hg:GG w) (hff:FrmFit f) (hel:env.length<=1200000) (hmax:∀ e∈env,e.name.length<=4000000) (hx:FrmIn w (·<w.heap.size) f fa) (hz:SlIn w (·<w.heap.size) (env.map Ev.toD) z) :
  Calls Tryz.prog 12 #[.agg (x.cells s).toArray,.slice z.a env.length z.cap,ndV (f,fa)] w (TopP w (gTreeF s env f)):=by
 obtain ⟨W0,hW0⟩:∃ W0,W0=((((w.alloc (.cells #[.slice x.slots.a s.slots.length x.slots.cap,.slice x.rooms.a s.rooms.length x.rooms.cap,.slice x.people.a s.people.length x.people.cap,.slice x.groups.a s.groups.length x.groups.cap,.slice x.lessons.a s.lessons.length x.lessons.cap] 28)).alloc (.cells #[.slice z.a env.length z.cap] 29)).alloc (.cells #[.int .i64 f.kind,.string ⟨f.name.toArray⟩,.int .i64 f.n,.slice fa.t.a f.terms.length fa.t.cap,.slice fa.b.a f.binds.length fa.b.cap,.slice fa.l.a f.l.length fa.l.cap] 34)).alloc (.cells #[.int .i64 0,.int .i64 0,.int .i64 0,.slice none 0 0] 39)).alloc (.cells #[.slice x.slots.a s.slots.length x.slots.cap,.slice x.rooms.a s.rooms.length x.rooms.cap,.slice x.people.a s.people.length x.people.cap,.slice x.groups.a s.groups.length x.groups.cap,.slice x.lessons.a s.lessons.length x.lessons.cap,.int .i64 0] 80):=⟨_,rfl⟩
 have hb0:Below w.heap.size w W0:=by rw [hW0];exact (((((Below.refl _ _).alloc (Nat.le_refl _) _).alloc (by simp) _).alloc (by simp;omega) _).alloc (by simp;omega) _).alloc (by simp;omega) _
 have hz0:W0.heap.size=w.heap.size+5:=by rw [hW0];simp
 have g0:W0.heap[w.heap.size]?=some (.cells #[.slice x.slots.a s.slots.length x.slots.cap,.slice x.rooms.a s.rooms.length x.rooms.cap,.slice x.people.a s.people.length x.people.cap,.slice x.groups.a s.groups.length x.groups.cap,.slice x.lessons.a s.lessons.length x.lessons.cap] 28 (0,0)):=by rw [hW0];simp only [heap_get,World.size_alloc];repeat (first | rw [if_pos trivial] | rw [if_pos rfl] | rw [if_pos (by omega)] | rw [if_neg (by omega)])
 have g1:W0.heap[w.heap.size+1]?=some (.cells #[.slice z.a env.length z.cap] 29 (0,0)):=by rw [hW0];simp only [heap_get,World.size_alloc];repeat (first | rw [if_pos trivial] | rw [if_pos rfl] | rw [if_pos (by omega)] | rw [if_neg (by omega)])
 have g2:W0.heap[w.heap.size+1+1]?=some (.cells #[.int .i64 f.kind,.string ⟨f.name.toArray⟩,.int .i64 f.n,.slice fa.t.a f.terms.length fa.t.cap,.slice fa.b.a f.binds.length fa.b.cap,.slice fa.l.a f.l.length fa.l.cap] 34 (0,0)):=by rw [hW0];simp only [heap_get,World.size_alloc];repeat (first | rw [if_pos trivial] | rw [if_pos rfl] | rw [if_pos (by omega)] | rw [if_neg (by omega)])
 have g3:W0.heap[w.heap.size+1+1+1]?=some (.cells #[.int .i64 0,.int .i64 0,.int .i64 0,.slice none 0 0] 39 (0,0)):=by rw [hW0];simp only [heap_get,World.size_alloc];repeat (first | rw [if_pos trivial] | rw [if_pos rfl] | rw [if_pos (by omega)] | rw [if_neg (by omega)])
 have g4:W0.heap[w.heap.size+1+1+1+1]?=some (.cells #[.slice x.slots.a s.slots.length x.slots.cap,.slice x.rooms.a s.rooms.length x.rooms.cap,.slice x.people.a s.people.length x.people.cap,.slice x.groups.a s.groups.length x.groups.cap,.slice x.lessons.a s.lessons.length x.lessons.cap,.int .i64 0] 80 (0,0)):=by rw [hW0];simp only [heap_get,World.size_alloc];repeat (first | rw [if_pos trivial] | rw [if_pos rfl] | rw [if_pos (by omega)] | rw [if_neg (by omega)])
 have HFI:=Lh (fun (W:World) (hm:MkB W (w.heap.size+1+1+1+1) s x 0)=>first_any s x 0 (w.heap.size+1+1+1+1) W hm hf.lessons)
 have HHD:=Lh (fun (y1:SlA) (W:World) (hb:Below w.heap.size w W) (hy:SlIn W (·<W.heap.size) ((firstW s).map Plc.toD) y1)=>eholds_any s x (firstW s) y1 env z f fa W hI hf hff (hg.below hb) (hs.later hb hb.size) hy (by simp only [firstW,List.length_replicate];have:=hf.lessons;omega) (hz.later hb hb.size) (by omega) hmax (hx.later hb hb.size))
 have HMD:=Lh (fun (W:World) (lb:Array Value) (S:Nat->Prop) (Good Bad:World->Prop)=>gmade_any s x 37 lb W S Good Bad (enters_of Tryz.func37 (by kernel_rfl) rfl))
 have HT1:=Lh (fun (W:World) (mb eb fb xb:Nat) (ho:HoldsOk s (firstW s) env f) (hb:Below w.heap.size w W) (hmb:w.heap.size<=mb) (hm:MkB W mb s x (65536:Nat))=>gtree1_any w s x f fa env z W mb eb fb xb hI hf hs hg ho hff hel hb hmb hm hx hz)
 have HB:=Lh (aI hb0 (aI hz0 (aI g0 (aI g1 (aI g2 (aI g3 g4))))))
 have HW0:=Lh hW0
 have HR:Hid (gTreeF s env f=if (evHolds s (firstW s) env f).2 ≠ 0 then (zeroTr,(evHolds s (firstW s) env f).2) else if (gtF s env f).size<=65536 then (gtF s env f,0) else (zeroTr,2)):=Lh rfl
 have hmf:∀ (fn:Fn) (first cap:Array Value) (w:World),(Instr.makeFunc fn first cap).run Tryz.prog w=.ok (.func fn first cap) w:=fun _ _ _ _=>rfl
 have HOK:Hid ((evHolds s (firstW s) env f).2=0->HoldsOk s (firstW s) env f):=Lh (fun h=>evHolds_ok.1 h)
 clear hI hf hs hg hff hel hmax hx hz hb0 hz0 g0 g1 g2 g3 g4 hW0
 generalize gTreeF s env f=res at HR ⊢
 obtain ⟨hv,hhv⟩:∃ hv,evHolds s (firstW s) env f=hv:=⟨_,rfl⟩
 obtain ⟨bb,bc⟩:=hv
 rw [hhv] at HHD HR HOK
 clear hhv
 simp only [SchA.cells,SlA.val,ndV,FrmA.cells] at HHD HMD HW0 ⊢
 have HKS:Hid (∀ w',Below W0.heap.size W0 w'->w'.cell? ⟨w.heap.size,0,none⟩=some (.slice x.slots.a s.slots.length x.slots.cap)/\w'.cell? ⟨w.heap.size,1,none⟩=some (.slice x.rooms.a s.rooms.length x.rooms.cap)/\w'.cell? ⟨w.heap.size,2,none⟩=some (.slice x.people.a s.people.length x.people.cap)/\w'.cell? ⟨w.heap.size,3,none⟩=some (.slice x.groups.a s.groups.length x.groups.cap)/\w'.cell? ⟨w.heap.size,4,none⟩=some (.slice x.lessons.a s.lessons.length x.lessons.cap)/\w'.cell? ⟨w.heap.size+1,0,none⟩=some (.slice z.a env.length z.cap)/\w'.cell? ⟨w.heap.size+1+1,0,none⟩=some (.int .i64 f.kind)/\w'.cell? ⟨w.heap.size+1+1,1,none⟩=some (.string ⟨f.name.toArray⟩)/\w'.cell? ⟨w.heap.size+1+1,2,none⟩=some (.int .i64 f.n)/\w'.cell? ⟨w.heap.size+1+1,3,none⟩=some (.slice fa.t.a f.terms.length fa.t.cap)/\w'.cell? ⟨w.heap.size+1+1,4,none⟩=some (.slice fa.b.a f.binds.length fa.b.cap)/\w'.cell? ⟨w.heap.size+1+1,5,none⟩=some (.slice fa.l.a f.l.length fa.l.cap)):=Lh (fun w' hW=>by
  have e0:=(hW.block _ (gS HB.out.2.2.1).1).trans HB.out.2.2.1
  have e1:=(hW.block _ (gS HB.out.2.2.2.1).1).trans HB.out.2.2.2.1
  have e2:=(hW.block _ (gS HB.out.2.2.2.2.1).1).trans HB.out.2.2.2.2.1
  exact ⟨cH e0 rfl,cH e0 rfl,cH e0 rfl,cH e0 rfl,cH e0 rfl,cH e1 rfl,cH e2 rfl,cH e2 rfl,cH e2 rfl,cH e2 rfl,cH e2 rfl,cH e2 rfl⟩)
 go_enter Tryz.func12,Tryz.ntmps12
 go_wp2_with fail
 rw [<- HW0.out]
 refine wp_region_U 8 (S:=fun w'=>w'.cell? ⟨w.heap.size,0,none⟩=some (.slice x.slots.a s.slots.length x.slots.cap)/\w'.cell? ⟨w.heap.size,1,none⟩=some (.slice x.rooms.a s.rooms.length x.rooms.cap)/\w'.cell? ⟨w.heap.size,2,none⟩=some (.slice x.people.a s.people.length x.people.cap)/\w'.cell? ⟨w.heap.size,3,none⟩=some (.slice x.groups.a s.groups.length x.groups.cap)/\w'.cell? ⟨w.heap.size,4,none⟩=some (.slice x.lessons.a s.lessons.length x.lessons.cap)/\w'.cell? ⟨w.heap.size+1,0,none⟩=some (.slice z.a env.length z.cap)/\w'.cell? ⟨w.heap.size+1+1,0,none⟩=some (.int .i64 f.kind)/\w'.cell? ⟨w.heap.size+1+1,1,none⟩=some (.string ⟨f.name.toArray⟩)/\w'.cell? ⟨w.heap.size+1+1,2,none⟩=some (.int .i64 f.n)/\w'.cell? ⟨w.heap.size+1+1,3,none⟩=some (.slice fa.t.a f.terms.length fa.t.cap)/\w'.cell? ⟨w.heap.size+1+1,4,none⟩=some (.slice fa.b.a f.binds.length fa.b.cap)/\w'.cell? ⟨w.heap.size+1+1,5,none⟩=some (.slice fa.l.a f.l.length fa.l.cap)) (by kernel_rfl) (HKS.out _ (Below.refl _ _).drew) (fun qH=>?_)
 refine tkU (i:=0) rfl qH ?_
 try simp only [Act.put,ub1,ub2,ub3]
 refine tkU (i:=2) rfl qH ?_
 try simp only [Act.put,ub1,ub2,ub3]
 refine tkU (i:=3) rfl qH ?_
 try simp only [Act.put,ub1,ub2,ub3]
 refine ready_U (rs:=[1]) (by kernel_rfl) (by simp) ?_
 refine cons_U rfl (fun K hK=>?_) nil_U
 go_simp
 go_at_call 35
 refine (HFI.out W0.drew HB.out.2.2.2.2.2.2).mono ?_
 rintro e w3 ⟨y1,rfl,hy,hb⟩
 have Hw3:=Lh (aI (Below.trans (Below.refl W0.heap.size W0).drew (hb.mono (Nat.le_refl _))) (hy.mono (fun k hk=>hk.2)))
 clear hb hy
 go_simp
 refine hK.out _ _ ?_ (fun qI=>?_)
 ·exact HKS.out _ Hw3.out.1
 clear hK K qH
 have qH:=qI
 clear qI
 try simp only [Act.put,ub1,ub2,ub3]
 refine ready_U (rs:=[4]) (by kernel_rfl) (by simp) ?_
 refine cons_U rfl (fun K hK=>?_) nil_U
 go_simp
 go_at_call 20
 refine (HHD.out y1 w3 (HB.out.1.trans (Hw3.out.1.mono HB.out.1.size)) Hw3.out.2).mono ?_
 rintro e w5 ⟨rfl,hb⟩
 have Hw5:=Lh (Hw3.out.1.trans (hb.mono Hw3.out.1.size))
 clear hb
 go_simp
 refine hK.out _ _ ?_ (fun qI=>?_)
 ·exact HKS.out _ Hw5.out
 clear hK K qH
 have qH:=qI
 clear qI
 try simp only [Act.put,ub1,ub2,ub3]
 refine tkU (i:=5) rfl qH ?_
 try simp only [Act.put,ub1,ub2,ub3]
 refine tkU (i:=6) rfl qH ?_
 try simp only [Act.put,ub1,ub2,ub3]
 refine tkU (i:=7) rfl qH ?_
 try simp only [Act.put,ub1,ub2,ub3]
 refine ready_U (rs:=[8]) (by kernel_rfl) (by simp) ?_
 refine cons_V rfl (by kernel_rfl) (fun K hK=>?_) nil_U
 go_simp
 refine hK.out _ _ ?_
 clear hK K
 try simp only [Act.put,ub1,ub2,ub3]
 refine done_U (by kernel_rfl) ?_ _
 clear qH
 by_cases hbc:bc ≠ 0
 ·have d1:(bc != 0)=true:=by simpa using hbc
  have HE:Hid (res=(zeroTr,bc)):=Lh (by rw [HR.out,if_pos hbc])
  clear hbc
  have r5:=(Hw5.out.block _ (gS HB.out.2.2.2.2.2.1).1).trans HB.out.2.2.2.2.2.1
  have HR5:=Lh r5
  have x0:w5.cell? ⟨w.heap.size+1+1+1,0,none⟩=some (.int .i64 0):=cH r5 rfl
  have f0:w5.frozen? ⟨w.heap.size+1+1+1,0,none⟩=false:=fH r5
  have x1:w5.cell? ⟨w.heap.size+1+1+1,1,none⟩=some (.int .i64 0):=cH r5 rfl
  have f1:w5.frozen? ⟨w.heap.size+1+1+1,1,none⟩=false:=fH r5
  have x2:w5.cell? ⟨w.heap.size+1+1+1,2,none⟩=some (.int .i64 0):=cH r5 rfl
  have f2:w5.frozen? ⟨w.heap.size+1+1+1,2,none⟩=false:=fH r5
  have x3:w5.cell? ⟨w.heap.size+1+1+1,3,none⟩=some (.slice none 0 0):=cH r5 rfl
  have f3:w5.frozen? ⟨w.heap.size+1+1+1,3,none⟩=false:=fH r5
  have hlr:w.heap.size+1+1+1<w5.heap.size:=(gS r5).1
  clear r5
  go_wp2_with fail
  have hq3:=put4_heap HR5.out (.int .i64 0) (.int .i64 0) (.int .i64 0) (.slice none 0 0)
  have hm3:=put4_mod w5 (w.heap.size+1+1+1) 0 (.int .i64 0) (.int .i64 0) (.int .i64 0) (.slice none 0 0)
  unfold put4 at hq3 hm3
  simp only [Nat.zero_add] at hq3 hm3
  generalize (((w5.setCell _ _).setCell _ _).setCell _ _).setCell _ _=W3 at hq3 hm3 ⊢
  have HY:=Lh (aI hq3 hm3)
  have y0:W3.cell? ⟨w.heap.size+1+1+1,0,none⟩=some (.int .i64 0):=cH hq3 rfl
  have y1:W3.cell? ⟨w.heap.size+1+1+1,1,none⟩=some (.int .i64 0):=cH hq3 rfl
  have y2:W3.cell? ⟨w.heap.size+1+1+1,2,none⟩=some (.int .i64 0):=cH hq3 rfl
  have y3:W3.cell? ⟨w.heap.size+1+1+1,3,none⟩=some (.slice none 0 0):=cH hq3 rfl
  clear hq3 hm3
  refine bodyPost_ret (v:=.tuple #[.agg #[.int .i64 0,.int .i64 0,.int .i64 0,.slice none 0 0],.int .i64 bc]) (by simp [results,Tryz.results12,go_sem,y0,y1,y2,y3]) rfl ?_
  rw [HE.out]
  exact ⟨0,0,0,none,0,0,rfl,zeroTr_at,(HB.out.1.trans (Hw5.out.mono HB.out.1.size)).trans (HY.out.2.below (by have:=HB.out.1.size;have:=Hw5.out.size;omega) (fun k hk=>by omega))⟩
 ·have hbc0:bc=0:=by simpa using hbc
  subst hbc0
  have ho:=HOK.out rfl
  clear hbc
  have r5:=(Hw5.out.block _ (gS HB.out.2.2.2.2.2.1).1).trans HB.out.2.2.2.2.2.1
  have HR5:=Lh r5
  have x0:w5.cell? ⟨w.heap.size+1+1+1,0,none⟩=some (.int .i64 0):=cH r5 rfl
  have f0:w5.frozen? ⟨w.heap.size+1+1+1,0,none⟩=false:=fH r5
  have x1:w5.cell? ⟨w.heap.size+1+1+1,1,none⟩=some (.int .i64 0):=cH r5 rfl
  have f1:w5.frozen? ⟨w.heap.size+1+1+1,1,none⟩=false:=fH r5
  have x2:w5.cell? ⟨w.heap.size+1+1+1,2,none⟩=some (.int .i64 0):=cH r5 rfl
  have f2:w5.frozen? ⟨w.heap.size+1+1+1,2,none⟩=false:=fH r5
  have x3:w5.cell? ⟨w.heap.size+1+1+1,3,none⟩=some (.slice none 0 0):=cH r5 rfl
  have f3:w5.frozen? ⟨w.heap.size+1+1+1,3,none⟩=false:=fH r5
  have hlr:w.heap.size+1+1+1<w5.heap.size:=(gS r5).1
  obtain ⟨q0,q1,q2,q3,q4,_⟩:=HKS.out w5 Hw5.out
  clear r5
  obtain ⟨WB,hWB⟩:∃ WB,WB=w5.alloc (.cells #[.int .i64 0,.int .i64 0,.int .i64 0,.slice none 0 0] 39):=⟨_,rfl⟩
  have hbB:Below w5.heap.size w5 WB:=by rw [hWB];exact (Below.refl _ _).alloc (Nat.le_refl _) _
  have hzB:WB.heap.size=w5.heap.size+1:=by rw [hWB];simp
  have hkB:WB.heap[w5.heap.size]?=some (.cells #[.int .i64 0,.int .i64 0,.int .i64 0,.slice none 0 0] 39 (0,0)):=by rw [hWB,heap_get,if_pos rfl]
  have hbw:Below W0.heap.size W0 WB:=Hw5.out.trans (hbB.mono Hw5.out.size)
  have hbww:Below w.heap.size w WB:=HB.out.1.trans (hbw.mono HB.out.1.size)
  have hz0:=HB.out.2.1
  have hs5:=Hw5.out.size
  have e1:=(hbw.block _ (gS HB.out.2.2.2.1).1).trans HB.out.2.2.2.1
  have e2:=(hbw.block _ (gS HB.out.2.2.2.2.1).1).trans HB.out.2.2.2.2.1
  have e3:=(hbw.block _ (gS HB.out.2.2.2.2.2.1).1).trans HB.out.2.2.2.2.2.1
  have hmd:=HMD.out WB #[.pointer (some ⟨w.heap.size+1,0,none⟩),.pointer (some ⟨w.heap.size+1+1,0,none⟩),.pointer (some ⟨w5.heap.size,0,none⟩)] (fun k=>k=w5.heap.size) (TopGood (WB.heap.size+3) w5.heap.size (gtF s env f)) (fun _=>65536<(gtF s env f).size) (fun W W' h hm=>h.kept hm (by omega) (by omega)) (fun _ _ h _=>h) (fun k hk=>by omega) (fun W hW hm=>(HT1.out W (WB.heap.size+1+1) (w.heap.size+1) (w.heap.size+1+1) w5.heap.size ho (hbww.trans (hW.mono hbww.size)) (by have:=hbww.size;omega) hm ((hW.block _ (gS e1).1).trans e1) ((hW.block _ (gS e2).1).trans e2) ((hW.block _ (by omega)).trans hkB) (by omega)).mono (fun e W' ⟨k1,k2⟩=>⟨k1,by
   rcases k2 with ⟨k2,k3⟩ | k2
   ·exact .inl ⟨k2,k3.low (by have:=hm.lt;omega)⟩
   ·exact .inr k2⟩))
  have HMB:=Lh hmd
  have HBB:=Lh (aI hbww (aI hzB (aI e3 (aI hkB (aI hz0 hs5)))))
  have HWB:=Lh hWB.symm
  have hlw5:w.heap.size<w5.heap.size:=by omega
  clear hmd hbB hzB hkB hbw hbww hz0 hs5 e1 e2 e3 hWB ho
  go_wp2_with fail
  rw [HWB.out]
  refine HMB.out.mono ?_
  rintro e w6 ⟨hm6,⟨rfl,hg6⟩ | ⟨rfl,hb6⟩⟩
  ·obtain ⟨hle,k0,k1,k2,a,n,cap,hx6,hd6⟩:=hg6
   have r6:=heap_kept HBB.out.2.2.1 hm6 (by have:=HBB.out;omega)
   have HR6:=Lh r6
   have HX6:=Lh (aI hx6 (aI hd6 (aI hm6 hle)))
   have v0:w6.cell? ⟨w5.heap.size,0,none⟩=some (.int .i64 k0):=cH hx6 rfl
   have v1:w6.cell? ⟨w5.heap.size,1,none⟩=some (.int .i64 k1):=cH hx6 rfl
   have v2:w6.cell? ⟨w5.heap.size,2,none⟩=some (.int .i64 k2):=cH hx6 rfl
   have v3:w6.cell? ⟨w5.heap.size,3,none⟩=some (.slice a n cap):=cH hx6 rfl
   clear x0 x1 x2 x3 f0 f1 f2 f3 hlr q0 q1 q2 q3 q4
   have x0:w6.cell? ⟨w.heap.size+1+1+1,0,none⟩=some (.int .i64 0):=cH r6 rfl
   have f0:w6.frozen? ⟨w.heap.size+1+1+1,0,none⟩=false:=fH r6
   have x1:w6.cell? ⟨w.heap.size+1+1+1,1,none⟩=some (.int .i64 0):=cH r6 rfl
   have f1:w6.frozen? ⟨w.heap.size+1+1+1,1,none⟩=false:=fH r6
   have x2:w6.cell? ⟨w.heap.size+1+1+1,2,none⟩=some (.int .i64 0):=cH r6 rfl
   have f2:w6.frozen? ⟨w.heap.size+1+1+1,2,none⟩=false:=fH r6
   have x3:w6.cell? ⟨w.heap.size+1+1+1,3,none⟩=some (.slice none 0 0):=cH r6 rfl
   have f3:w6.frozen? ⟨w.heap.size+1+1+1,3,none⟩=false:=fH r6
   have hlr:w.heap.size+1+1+1<w6.heap.size:=(gS r6).1
   clear r6 hx6 hd6 hm6 hle
   go_wp2_with fail
   have hq3:=put4_heap HR6.out (.int .i64 k0) (.int .i64 k1) (.int .i64 k2) (.slice a n cap)
   have hm3:=put4_mod w6 (w.heap.size+1+1+1) 0 (.int .i64 k0) (.int .i64 k1) (.int .i64 k2) (.slice a n cap)
   unfold put4 at hq3 hm3
   simp only [Nat.zero_add] at hq3 hm3
   generalize (((w6.setCell _ _).setCell _ _).setCell _ _).setCell _ _=W3 at hq3 hm3 ⊢
   have HY:=Lh (aI hq3 hm3)
   have y0:W3.cell? ⟨w.heap.size+1+1+1,0,none⟩=some (.int .i64 k0):=cH hq3 rfl
   have y1:W3.cell? ⟨w.heap.size+1+1+1,1,none⟩=some (.int .i64 k1):=cH hq3 rfl
   have y2:W3.cell? ⟨w.heap.size+1+1+1,2,none⟩=some (.int .i64 k2):=cH hq3 rfl
   have y3:W3.cell? ⟨w.heap.size+1+1+1,3,none⟩=some (.slice a n cap):=cH hq3 rfl
   clear hq3 hm3
   refine bodyPost_ret (v:=.tuple #[.agg #[.int .i64 k0,.int .i64 k1,.int .i64 k2,.slice a n cap],.int .i64 0]) (by simp [results,Tryz.results12,go_sem,y0,y1,y2,y3]) rfl ?_
   have hz6:=HX6.out.2.2.1.size
   have hzz:=HBB.out.2.1
   have hz3:=HY.out.2.size
   have hw0:=HBB.out.2.2.2.2.1
   have hw5:=HBB.out.2.2.2.2.2
   have HE:res=(gtF s env f,0):=by rw [HR.out,if_neg (fun h=>h rfl),if_pos HX6.out.2.2.2]
   rw [HE]
   refine ⟨k0,k1,k2,a,n,cap,rfl,DAt.mono (fun k hk=>⟨by have:=hk.1;omega,by have:=hk.2;omega⟩) _ _ (DAt.agree (HY.out.2.agree (fun k hk=>⟨hk.2,by have:=hk.1;omega⟩)) _ _ HX6.out.2.1),(HBB.out.1.trans (HX6.out.2.2.1.below HBB.out.1.size (fun k hk=>by omega))).trans (HY.out.2.below (by omega) (fun k hk=>by omega))⟩
  ·have r6:=heap_kept HBB.out.2.2.1 hm6 (by have:=HBB.out;omega)
   have HR6:=Lh r6
   have HX6:=Lh (aI hm6 hb6)
   clear x0 x1 x2 x3 f0 f1 f2 f3 hlr q0 q1 q2 q3 q4
   have x0:w6.cell? ⟨w.heap.size+1+1+1,0,none⟩=some (.int .i64 0):=cH r6 rfl
   have f0:w6.frozen? ⟨w.heap.size+1+1+1,0,none⟩=false:=fH r6
   have x1:w6.cell? ⟨w.heap.size+1+1+1,1,none⟩=some (.int .i64 0):=cH r6 rfl
   have f1:w6.frozen? ⟨w.heap.size+1+1+1,1,none⟩=false:=fH r6
   have x2:w6.cell? ⟨w.heap.size+1+1+1,2,none⟩=some (.int .i64 0):=cH r6 rfl
   have f2:w6.frozen? ⟨w.heap.size+1+1+1,2,none⟩=false:=fH r6
   have x3:w6.cell? ⟨w.heap.size+1+1+1,3,none⟩=some (.slice none 0 0):=cH r6 rfl
   have f3:w6.frozen? ⟨w.heap.size+1+1+1,3,none⟩=false:=fH r6
   have hlr:w.heap.size+1+1+1<w6.heap.size:=(gS r6).1
   clear r6 hm6 hb6
   go_wp2_with fail
   have hq3:=put4_heap HR6.out (.int .i64 0) (.int .i64 0) (.int .i64 0) (.slice none 0 0)
   have hm3:=put4_mod w6 (w.heap.size+1+1+1) 0 (.int .i64 0) (.int .i64 0) (.int .i64 0) (.slice none 0 0)
   unfold put4 at hq3 hm3
   simp only [Nat.zero_add] at hq3 hm3
   generalize (((w6.setCell _ _).setCell _ _).setCell _ _).setCell _ _=W3 at hq3 hm3 ⊢
   have HY:=Lh (aI hq3 hm3)
   have y0:W3.cell? ⟨w.heap.size+1+1+1,0,none⟩=some (.int .i64 0):=cH hq3 rfl
   have y1:W3.cell? ⟨w.heap.size+1+1+1,1,none⟩=some (.int .i64 0):=cH hq3 rfl
   have y2:W3.cell? ⟨w.heap.size+1+1+1,2,none⟩=some (.int .i64 0):=cH hq3 rfl
   have y3:W3.cell? ⟨w.heap.size+1+1+1,3,none⟩=some (.slice none 0 0):=cH hq3 rfl
   clear hq3 hm3
   refine bodyPost_ret (v:=.tuple #[.agg #[.int .i64 0,.int .i64 0,.int .i64 0,.slice none 0 0],.int .i64 2]) (by simp [results,Tryz.results12,go_sem,y0,y1,y2,y3]) rfl ?_
   have hz6:=HX6.out.1.size
   have hzz:=HBB.out.2.1
   have hw0:=HBB.out.2.2.2.2.1
   have hw5:=HBB.out.2.2.2.2.2
   have HE:res=(zeroTr,2):=by rw [HR.out,if_neg (fun h=>h rfl),if_neg (by have:=HX6.out.2;omega)]
   rw [HE]
   exact ⟨0,0,0,none,0,0,rfl,zeroTr_at,(HBB.out.1.trans (HX6.out.1.below HBB.out.1.size (fun k hk=>by omega))).trans (HY.out.2.below (by omega) (fun k hk=>by omega))⟩
end Go.Proofs.YtjjkfgjnadaheaaGreatDoor
namespace Go.Chalk
open Go.RowKit
theorem ghold_plain (s:Schl) (l:List Plc) (env:List Ev) (f:Frm) :
  ((gTreeF s env f).2 ≠ 0->(gTreeF s env f).1=zeroTr)/\((gTreeF s env f).2=0->(gTreeF s env f).1.size<=65536/\((wkTrueF s l).2=0->evHolds s l env f=(valG (gTreeF s env f).1 (wkTrueF s l).1,0))):=by
 by_cases h1:(evHolds s (firstW s) env f).2=0
 ·by_cases h2:(gtF s env f).size<=65536
  ·have e:gTreeF s env f=(gtF s env f,0):=by unfold gTreeF;rw [if_neg (by simpa using h1),if_pos h2]
   rw [e]
   refine ⟨fun h=>absurd rfl h,fun _=>⟨h2,fun h3=>?_⟩⟩
   have h4:weekCheck s l=0:=by
    unfold wkTrueF at h3
    split at h3
    ·rename_i h;exact absurd h3 h
    ·rename_i h;exact Classical.byContradiction h
   have e2:wkTrueF s l=(trueK s l l.length,0):=by unfold wkTrueF;rw [if_neg (by simpa using h4)]
   have ho:=evHolds_ok.1 h1
   have ho2:=ho.week_swap h4
   rw [e2,evHolds_val ho2,gt_val s l _ (trueW_true h4) ho.week f.size f env (Nat.le_refl _) ho2]
  ·have e:gTreeF s env f=(zeroTr,2):=by unfold gTreeF;rw [if_neg (by simpa using h1),if_neg h2]
   rw [e]
   exact ⟨fun _=>rfl,fun h=>absurd h (by decide)⟩
 ·have e:gTreeF s env f=(zeroTr,(evHolds s (firstW s) env f).2):=by unfold gTreeF;rw [if_pos h1]
  rw [e]
  exact ⟨fun _=>rfl,fun h=>absurd h h1⟩
theorem sch_small {s:Schl} (h:schCheck s=0):s.slots.length<=50/\s.rooms.length<=32/\s.lessons.length<=64:=by
 unfold schCheck at h
 repeat' split at h
 all_goals first | omega | (exfalso;omega)
theorem vars_small {s:Schl} (h:schCheck s=0):wkVars s<=5248:=by
 obtain ⟨h1,h2,h3⟩:=sch_small h
 unfold wkVars
 exact Nat.le_trans (Nat.mul_le_mul h3 (show s.slots.length+s.rooms.length<=82 by omega)) (by decide)
theorem bools_set (a:List Bool) (i:Nat):(a.map Value.bool).toArray.setIfInBounds i (.bool true)=((a.set i true).map Value.bool).toArray:=by simp
end Go.Chalk
namespace Go.Proofs.YtjjkfgjnadaheaaGreatDoor
open Go.RowKit Go.Chalk
attribute [local go_sem] Oper.semAt_some
theorem infoBool:(Tryz.prog.info? 4).map (fun i=>(i.zero,i.size,i.bytes))=some (some (.bool false),1,1):=by kernel_rfl
theorem make_bools (n:Nat) (hn:n<=2000000) (W:World):(Instr.makeSlice 51 (.int .i64 (n:Int)) (.int .i64 (n:Int))).run Tryz.prog W=.ok (.slice (some ⟨W.heap.size,0,none⟩) n n) (W.alloc (.cells ((List.replicate n false).map Value.bool).toArray 4)):=by
 obtain ⟨i0,hi,hz0,hz1,hz2⟩:=info_parts infoBool
 have:=run_makeSlice (P:=Tryz.prog) W 51 4 i0 _ Tryz.underlying51 hi hz0 .i64 .i64 n n (by omega) (Int.le_refl _) (by rw [hz1];omega) (by rw [hz2];omega) (by omega)
 have hm:madeCells (Value.bool false).cells ((n:Int).toNat*1)=((List.replicate n false).map Value.bool).toArray:=by
  apply Array.ext
  ·rw [size_madeCells];simp
  ·intro i h1 h2
   simp [madeCells,Value.cells]
   rw [Nat.mod_one];rfl
 rw [this,hz1,hm,Int.toNat_natCast]
theorem wvars_any (s:Schl) (x:SchA) (w:World) (hsm:SchSmall s):Calls Tryz.prog 23 #[.agg (x.cells s).toArray] w fun e w'=>e=.returned (.int .i64 (wkVars s:Nat))/\Below w.heap.size w w':=by
 have h1:=hsm.lessons
 have h2:=hsm.slots
 have h3:=hsm.rooms
 have hp:(s.lessons.length:Int)*((s.slots.length:Int)+(s.rooms.length:Int))=((wkVars s:Nat):Int):=by unfold wkVars;push_cast;rfl
 have hv:wkVars s<=8000000000000:=by
  unfold wkVars
  exact Nat.le_trans (Nat.mul_le_mul h1 (show s.slots.length+s.rooms.length<=4000000 by omega)) (by decide)
 simp only [SchA.cells,SlA.val]
 go_enter Tryz.func23,Tryz.ntmps23
 go_wp2_with fail
 go_ret
 exact ⟨rfl,(Below.refl _ _).alloc (Nat.le_refl _) _⟩
def TrueQ (w:World) (r:List Bool×Int) (e:Ending) (w':World):Prop:=∃ u:SlA,e=.returned (.tuple #[.slice u.a r.1.length u.cap,.int .i64 r.2])/\SlIn w' (fun k=>w.heap.size<=k/\k<w'.heap.size) (dbools r.1) u/\Below w.heap.size w w'/\∃ q,Chalk.Own w' (fun _=>False) 4 1 (.slice u.a r.1.length u.cap) q (dbools r.1)/\∀ k,q=some k->w.heap.size<=k
theorem wtrue_own (s:Schl) (x:SchA) (l:List Plc) (y:SlA) (w:World) (hI:ItoaAt) (hf:SchFit s) (hg:GG w) (hs:SchIn w (·<w.heap.size) s x) (hy:SlIn w (·<w.heap.size) (l.map Plc.toD) y) (hl:l.length<=2000000) :
  Calls Tryz.prog 19 #[.agg (x.cells s).toArray,.agg #[.slice y.a l.length y.cap]] w (TrueQ w (wkTrueF s l)):=by
 obtain ⟨W0,hW0⟩:∃ W0,W0=(w.alloc (.cells (x.cells s).toArray 28)).alloc (.cells #[.slice y.a l.length y.cap] 50):=⟨_,rfl⟩
 have hb0:Below w.heap.size w W0:=by rw [hW0];exact ((Below.refl _ _).alloc (Nat.le_refl _) _).alloc (by simp) _
 have hq0:SchBox W0 w.heap.size s x:=by rw [hW0];unfold SchBox;rw [heap_get,if_neg (by simp),heap_get,if_pos rfl]
 have hq1:W0.heap[w.heap.size+1]?=some (.cells #[.slice y.a l.length y.cap] 50 (0,0)):=by rw [hW0,heap_get,if_pos (by simp)]
 have HCK:=Lh (wcheck_any s x l y W0 hI (hs.later hb0 hb0.size) hf (hy.later hb0 hb0.size) hl (hg.below hb0))
 have HVA:=Lh (fun W=>wvars_any s x W hf.toSchSmall)
 have HAT:=Lh (fun i j W=>wat_any s x i j W hf.lessons hf.slots hf.rooms)
 have HIN:=Lh (fun i j W=>win_any s x i j W hf.lessons hf.slots hf.rooms)
 obtain ⟨y1,_,_,y4,_⟩:=hy.flat Plc.flatT
 have HY:=Lh (aI y1 y4)
 have HB:=Lh (aI hb0 (aI hq0 hq1))
 have HW0:=Lh hW0.symm
 have HWK:Hid (weekCheck s l=0->l.length=s.lessons.length/\(∀ i,i<l.length->0<=(plcAt l i).slot/\(plcAt l i).slot<s.slots.length/\0<=(plcAt l i).room/\(plcAt l i).room<s.rooms.length)/\wkVars s<=5248):=Lh (fun h=>⟨(week_parts h).1,(week_parts h).2,vars_small (week_school h)⟩)
 have HR:Hid (wkTrueF s l=if weekCheck s l ≠ 0 then ([],weekCheck s l) else (trueK s l l.length,0)):=Lh rfl
 obtain ⟨a0,a1,a2,a3,a4⟩:=hq0.cells
 have b0:W0.cell? ⟨w.heap.size+1,0,none⟩=some (.slice y.a l.length y.cap):=cH hq1 rfl
 clear hb0 hq0 hq1 hW0 hI hf hg hs hy y1 y4
 generalize wkTrueF s l=res at HR ⊢
 generalize weekCheck s l=wc at HCK HWK HR
 simp only [SchA.cells,SlA.val] at HCK HVA HAT HIN HW0 a0 a1 a2 a3 a4 ⊢
 go_enter Tryz.func19,Tryz.ntmps19
 go_wp2_with fail
 rw [HW0.out]
 refine HCK.out.mono ?_
 rintro e w1 ⟨rfl,hb1⟩
 have H1:=Lh (aI (HB.out.1.trans (hb1.mono HB.out.1.size)) (aI (HB.out.2.1.below hb1) ((hb1.block _ (gS HB.out.2.2).1).trans HB.out.2.2)))
 clear hb1 a0 a1 a2 a3 a4 b0
 by_cases h1:wc ≠ 0
 ·have d1:(wc != 0)=true:=by simpa using h1
  have HE:Hid (res=([],wc)):=Lh (by rw [HR.out,if_pos h1])
  clear h1
  go_wp2_with fail
  go_ret2
  rw [HE.out]
  exact ⟨⟨none,0,0,0⟩,rfl,SlIn.nil (Nat.zero_le _) _ _ _,H1.out.1,none,Chalk.Own.nil _ _ _ _ (fun _ h=>h.elim),fun _ h=>by cases h⟩
 obtain rfl:wc=0:=by omega
 have HE:Hid (res=(trueK s l l.length,0)):=Lh (by rw [HR.out,if_neg h1])
 have HWP:=Lh (HWK.out rfl)
 clear h1
 obtain ⟨a0,a1,a2,a3,a4⟩:=H1.out.2.1.cells
 go_wp2_with fail
 refine (HVA.out w1).mono ?_
 rintro e w2 ⟨rfl,hb2⟩
 have hvs:wkVars s<=5248:=HWP.out.2.2
 have hmk:=make_bools (wkVars s+1) (by omega)
 rw [show (((wkVars s+1:Nat):Nat):Int)=((wkVars s:Nat):Int)+1 by push_cast;rfl] at hmk
 have H2:=Lh (aI (H1.out.1.trans (hb2.mono H1.out.1.size)) (aI (H1.out.2.1.below hb2) (aI ((hb2.block _ (gS H1.out.2.2).1).trans H1.out.2.2) (H1.out.1.size))))
 have b2:w2.cell? ⟨w.heap.size+1,0,none⟩=some (.slice y.a l.length y.cap):=cH H2.out.2.2.1 rfl
 have hlw2:=(gS H2.out.2.2.1).1
 clear hb2 a0 a1 a2 a3 a4
 go_wp2_with fail
 have hlen0:=trueK_len s l
 have HLN:=Lh hlen0
 clear hlen0 hmk
 go_loopw [23] (fun i wr=>∃ j:Nat,j<=l.length/\i=.int .i64 j/\Hid (Chalk.Mod (fun k=>k=w2.heap.size) w2 wr/\wr.heap[w2.heap.size]?=some (.cells ((trueK s l j).map Value.bool).toArray 4 (0,0)))) (fun i _=>l.length - (intOf i).toNat)
 case atStart =>
  refine ⟨0,Nat.zero_le _,rfl,Lh ⟨(Chalk.Mod.refl _ _).alloc _,?_⟩⟩
  rw [heap_get,if_pos rfl];simp [trueK]
 case round =>
  clear b2
  obtain ⟨j,hj,rfl,HRR⟩:=hrel
  by_cases hlt:j<l.length
  ·obtain ⟨hya,hyb⟩:=HY.out.1 (by omega)
   obtain ⟨p0,p1⟩:=HY.out.2.two j hlt rfl
   have hpl:l[j]=plcAt l j:=by unfold plcAt;simp [hlt]
   rw [hpl] at p0 p1
   obtain ⟨q1,q2,q3,q4⟩:=HWP.out.2.1 j hlt
   have hll:=HWP.out.1
   have hbr:Below w.heap.size w wr:=H2.out.1.trans (HRR.out.1.below H2.out.1.size (fun k hk=>by have:=H2.out.1.size;omega))
   have g0:=(hbr.cell (p:=⟨y.b,y.o+j*2,none⟩) hyb).trans p0
   have g1:=(hbr.cell (p:=⟨y.b,y.o+j*2+1,none⟩) hyb).trans p1
   obtain ⟨v1,hv1⟩:∃ v1:Nat,wkAt s j (plcAt l j).slot=(v1:Int):=Int.eq_ofNat_of_zero_le (by
    unfold wkAt;rw [if_pos ⟨⟨by omega,by omega⟩,q1,q2⟩]
    have:=Int.mul_nonneg (a:=(j:Int)) (b:=(s.slots.length:Int)) (by omega) (by omega);omega)
   obtain ⟨v2,hv2⟩:∃ v2:Nat,wkIn s j (plcAt l j).room=(v2:Int):=Int.eq_ofNat_of_zero_le (by
    unfold wkIn;rw [if_pos ⟨⟨by omega,by omega⟩,q3,q4⟩]
    have:=Int.mul_nonneg (a:=(j:Int)) (b:=(s.rooms.length:Int)) (by omega) (by omega)
    have:=Int.mul_nonneg (a:=(s.lessons.length:Int)) (b:=(s.slots.length:Int)) (by omega) (by omega);omega)
   have hvb:v1<=wkVars s/\v2<=wkVars s:=by
    have hv:wkVars s=s.lessons.length*s.slots.length+s.lessons.length*s.rooms.length:=by unfold wkVars;rw [Nat.mul_add]
    obtain ⟨sl,hsl⟩:=Int.eq_ofNat_of_zero_le q1
    obtain ⟨rm,hrm⟩:=Int.eq_ofNat_of_zero_le q3
    have b1:=at_lt (S:=s.slots.length) (i:=j) (j:=sl) (n:=s.lessons.length) (by omega) (by omega)
    have b3:=at_lt (S:=s.rooms.length) (i:=j) (j:=rm) (n:=s.lessons.length) (by omega) (by omega)
    have e1:(v1:Int)=((j*s.slots.length+sl+1:Nat):Int):=by
     rw [<- hv1];unfold wkAt;rw [if_pos ⟨⟨by omega,by omega⟩,q1,q2⟩,hsl];push_cast;rfl
    have e2:(v2:Int)=((s.lessons.length*s.slots.length+j*s.rooms.length+rm+1:Nat):Int):=by
     rw [<- hv2];unfold wkIn;rw [if_pos ⟨⟨by omega,by omega⟩,q3,q4⟩,hrm];push_cast;rfl
    omega
   have hv1b:=hvb.1
   have hv2b:=hvb.2
   have HA1:=Lh (fun W=>HAT.out j (plcAt l j).slot W)
   have HI1:=Lh (fun W=>HIN.out j (plcAt l j).room W)
   rw [hv1] at HA1
   rw [hv2] at HI1
   have hts:trueK s l (j+1)=((trueK s l j).set v1 true).set v2 true:=by rw [trueK_succ];unfold setT;rw [hv1,hv2,Int.toNat_natCast,Int.toNat_natCast]
   have HTS:=Lh hts
   have hjm:j<2000000:=by omega
   obtain ⟨ps,hps⟩:∃ ps,(plcAt l j).slot=ps:=⟨_,rfl⟩
   obtain ⟨pr,hpr⟩:∃ pr,(plcAt l j).room=pr:=⟨_,rfl⟩
   rw [hps] at g0 HA1
   rw [hpr] at g1 HI1
   obtain ⟨WA,hWA⟩:∃ WA,WA=wr.alloc (.cells #[.int .i64 ps,.int .i64 pr] 99):=⟨_,rfl⟩
   have hbA:Below wr.heap.size wr WA:=by rw [hWA];exact (Below.refl _ _).alloc (Nat.le_refl _) _
   have hzA:WA.heap.size=wr.heap.size+1:=by rw [hWA];simp
   have hkA:WA.heap[wr.heap.size]?=some (.cells #[.int .i64 ps,.int .i64 pr] 99 (0,0)):=by rw [hWA,heap_get,if_pos rfl]
   have hrz:=HRR.out.1.size
   have hrl:=(gS HRR.out.2).1
   have hqr:SchBox WA w.heap.size s x:=(heap_kept H2.out.2.1 HRR.out.1 (by omega)).trans rfl |> fun h=>(hbA.block _ (gS h).1).trans h
   have haA:=(hbA.block _ hrl).trans HRR.out.2
   have HKS:Hid (∀ w',Chalk.Mod (fun k=>k=w2.heap.size) WA w'->w'.cell? ⟨w.heap.size,0,none⟩=some (.slice x.slots.a s.slots.length x.slots.cap)/\w'.cell? ⟨w.heap.size,1,none⟩=some (.slice x.rooms.a s.rooms.length x.rooms.cap)/\w'.cell? ⟨w.heap.size,2,none⟩=some (.slice x.people.a s.people.length x.people.cap)/\w'.cell? ⟨w.heap.size,3,none⟩=some (.slice x.groups.a s.groups.length x.groups.cap)/\w'.cell? ⟨w.heap.size,4,none⟩=some (.slice x.lessons.a s.lessons.length x.lessons.cap)/\w'.cell? ⟨wr.heap.size,0,none⟩=some (.int .i64 ps)/\w'.cell? ⟨wr.heap.size,1,none⟩=some (.int .i64 pr)):=Lh (fun w' hW=>by
    obtain ⟨m0,m1,m2,m3,m4⟩:=SchBox.cells (heap_kept hqr hW (by omega))
    have k1:=heap_kept hkA hW (by omega)
    exact ⟨m0,m1,m2,m3,m4,cH k1 rfl,cH k1 rfl⟩)
   have HA:=Lh (aI hbA (aI hzA (aI haA (aI hrz hrl))))
   have HWA:=Lh hWA.symm
   have HUA:=Lh hya
   have hybl:y.b<wr.heap.size:=by have:=hbr.size;omega
   rw [hya]
   clear p0 p1 hpl q1 q2 q3 q4 hll hbr hvb hv1 hv2 hts hps hpr hbA hzA hkA hqr haA hWA hya hrz hrl hyb
   go_wp2_with fail
   rw [HWA.out]
   refine wp_region_noPanic ?_
   refine wp_region_U 15 (S:=fun w'=>w'.cell? ⟨w.heap.size,0,none⟩=some (.slice x.slots.a s.slots.length x.slots.cap)/\w'.cell? ⟨w.heap.size,1,none⟩=some (.slice x.rooms.a s.rooms.length x.rooms.cap)/\w'.cell? ⟨w.heap.size,2,none⟩=some (.slice x.people.a s.people.length x.people.cap)/\w'.cell? ⟨w.heap.size,3,none⟩=some (.slice x.groups.a s.groups.length x.groups.cap)/\w'.cell? ⟨w.heap.size,4,none⟩=some (.slice x.lessons.a s.lessons.length x.lessons.cap)/\w'.cell? ⟨wr.heap.size,0,none⟩=some (.int .i64 ps)/\w'.cell? ⟨wr.heap.size,1,none⟩=some (.int .i64 pr)) (by kernel_rfl) (HKS.out _ (Chalk.Mod.refl _ _).drew) (fun qH=>?_)
   refine tkU (i:=0) rfl qH ?_
   try simp only [Act.put,ub1,ub2,ub3]
   refine tkU (i:=1) rfl qH ?_
   try simp only [Act.put,ub1,ub2,ub3]
   refine tkU (i:=2) rfl qH ?_
   try simp only [Act.put,ub1,ub2,ub3]
   refine tkU (i:=3) rfl qH ?_
   try simp only [Act.put,ub1,ub2,ub3]
   refine tkU (i:=4) rfl qH ?_
   try simp only [Act.put,ub1,ub2,ub3]
   refine tkU (i:=6) rfl qH ?_
   try simp only [Act.put,ub1,ub2,ub3]
   refine tkU (i:=7) rfl qH ?_
   try simp only [Act.put,ub1,ub2,ub3]
   refine tkU (i:=8) rfl qH ?_
   try simp only [Act.put,ub1,ub2,ub3]
   refine tkU (i:=9) rfl qH ?_
   try simp only [Act.put,ub1,ub2,ub3]
   refine tkU (i:=10) rfl qH ?_
   try simp only [Act.put,ub1,ub2,ub3]
   refine ready_U (rs:=[5]) (by kernel_rfl) (by simp) ?_
   refine cons_U rfl (fun K hK=>?_) nil_U
   go_simp
   go_at_call 44
   refine (HA1.out WA.drew).mono ?_
   rintro e w3 ⟨rfl,hb⟩
   have K3:=Lh (Below.trans (Below.refl WA.heap.size WA).drew (hb.mono (Nat.le_refl _)))
   clear hb
   go_simp
   refine hK.out _ _ ?_ (fun qI=>?_)
   ·exact HKS.out _ (Chalk.Mod.of_below K3.out)
   clear hK K qH
   have qH:=qI
   clear qI
   try simp only [Act.put,ub1,ub2,ub3]
   refine ready_U (rs:=[11]) (by kernel_rfl) (by simp) ?_
   refine cons_U rfl (fun K hK=>?_) nil_U
   go_simp
   go_at_call 46
   refine (HI1.out w3).mono ?_
   rintro e w4 ⟨rfl,hb⟩
   have K4:=Lh (K3.out.trans (hb.mono K3.out.size))
   clear hb
   have k4:=(K4.out.block w2.heap.size (by have:=HA.out;omega)).trans HA.out.2.2.1
   have hn4:=HLN.out j
   have hsz4:((trueK s l j).map Value.bool).toArray.size=wkVars s+1:=by simp [hn4]
   have xc:w4.cell? ⟨w2.heap.size,v1,none⟩=some (.bool ((trueK s l j)[v1]'(by omega))):=cH k4 (by simp)
   have xf:w4.frozen? ⟨w2.heap.size,v1,none⟩=false:=fH k4
   have xl:=(gS k4).1
   have k5:=box_store (i:=v1) (.bool true) k4
   rw [bools_set] at k5
   have hn5:((trueK s l j).set v1 true).length=wkVars s+1:=by simp [hn4]
   have HK5:=Lh (aI k5 hn5)
   generalize (trueK s l j)[v1]'(by omega)=bv at xc
   have i1:(0:Int)<=(v1:Int):=by omega
   have i2:(v1:Int)<((wkVars s:Nat):Int)+1:=by omega
   have i3:(0:Int)<=(v2:Int):=by omega
   have i4:(v2:Int)<((wkVars s:Nat):Int)+1:=by omega
   clear k4 hn4 hsz4 k5 hn5
   go_simp
   refine hK.out _ _ ?_ (fun qI=>?_)
   ·exact HKS.out _ (Chalk.Mod.of_below K4.out)
   clear hK K qH
   have qH:=qI
   clear qI
   try simp only [Act.put,ub1,ub2,ub3]
   refine tkU (i:=12) rfl qH ?_
   try simp only [Act.put,ub1,ub2,ub3]
   refine ready_U (rs:=[13]) (by kernel_rfl) (by simp) ?_
   refine cons_U rfl (fun K hK=>?_) nil_U
   go_simp
   refine hK.out _ _ ?_ (fun qI=>?_)
   ·exact HKS.out _ ((Chalk.Mod.of_below (S:=fun k=>k=w2.heap.size) K4.out).setCell (p:=⟨w2.heap.size,v1,none⟩) (fun _=>rfl) _)
   clear hK K qH
   have qH:=qI
   clear qI
   try simp only [Act.put,ub1,ub2,ub3]
   refine tkU (i:=14) rfl qH ?_
   try simp only [Act.put,ub1,ub2,ub3]
   have hm6:Chalk.Mod (fun k=>k=w2.heap.size) WA (w4.setCell ⟨w2.heap.size,v1,none⟩ (.bool true)):=(Chalk.Mod.of_below (S:=fun k=>k=w2.heap.size) K4.out).setCell (p:=⟨w2.heap.size,v1,none⟩) (fun _=>rfl) _
   have k6:=HK5.out.1
   generalize w4.setCell ⟨w2.heap.size,v1,none⟩ (.bool true)=w6 at hm6 k6 qH ⊢
   have zc:w6.cell? ⟨w2.heap.size,v2,none⟩=some (.bool (((trueK s l j).set v1 true)[v2]'(by have:=HK5.out.2;omega))):=cH k6 (by rw [List.getElem?_toArray,List.getElem?_map,List.getElem?_eq_getElem (by have:=HK5.out.2;omega)];rfl)
   have zf:w6.frozen? ⟨w2.heap.size,v2,none⟩=false:=fH k6
   have zl:=(gS k6).1
   have k7:=box_store (i:=v2) (.bool true) k6
   rw [bools_set,<- HTS.out] at k7
   have HK7:=Lh (aI hm6 k7)
   generalize ((trueK s l j).set v1 true)[v2]'(by have:=HK5.out.2;omega)=bw at zc
   clear hm6 k6 k7 xc xf xl
   refine ready_U (rs:=[15]) (by kernel_rfl) (by simp) ?_
   refine cons_V rfl (by kernel_rfl) (fun K hK=>?_) nil_U
   go_simp
   refine hK.out _ _ ?_
   clear hK K
   try simp only [Act.put,ub1,ub2,ub3]
   refine done_U (by kernel_rfl) ?_ _
   clear qH
   refine NoPanic.normal ?_
   go_wp2_with fail
   go_roundw
   case measure=>simp [intOf];omega
   case rel=>exact ⟨j+1,by omega,by go_num,Lh ⟨(HRR.out.1.trans (Chalk.Mod.of_below (S:=fun k=>k=w2.heap.size) HA.out.1) (fun _ _ h=>h)).trans (HK7.out.1.setCell (p:=⟨w2.heap.size,v2,none⟩) (fun _=>rfl) _) (fun _ _ h=>h),HK7.out.2⟩⟩
  ·have hjl:j=l.length:=by omega
   subst hjl
   have hnl:decide ((l.length:Int)<(l.length:Int))=false:=by simp
   have HF:=Lh HRR.out
   clear HRR hlt hj
   go_wp2_with fail
   go_ret2
   rw [HE.out]
   have hln:=HLN.out l.length
   have hlt:=(gS HF.out.2).1
   refine ⟨⟨some ⟨w2.heap.size,0,none⟩,w2.heap.size,0,wkVars s+1⟩,by rw [hln];rfl,?_,H2.out.1.trans (HF.out.1.below H2.out.1.size (fun k hk=>by have:=H2.out.1.size;omega)),some w2.heap.size,?_,fun k hk=>by simp at hk;have:=H2.out.1.size;omega⟩
   ·exact SlIn.lit HF.out.2 DsAt.bools ⟨H2.out.1.size,hlt⟩ (by rw [dbools_length,hln];exact Nat.le_refl _) (by unfold maxLen;omega)
   ·refine ⟨⟨(trueK s l l.length).map Value.bool,?_,DsAt.bools⟩,rfl,fun _ _ h=>h,fun _ h=>h.elim⟩
    rw [dbools_length,hln]
    exact ⟨by simp [hln],.inr ⟨w2.heap.size,wkVars s+1,_,rfl,Nat.zero_le _,HF.out.2,Nat.le_refl _,by unfold maxLen;omega,by simp [hln],by simp only [<- hln,Nat.mul_one];exact List.take_of_length_le (by simp)⟩⟩
end Go.Proofs.YtjjkfgjnadaheaaGreatDoor
namespace Go.Chalk
mutual
theorem val_same:∀ (t:Tr) (N:Int) (a:List Bool),mayB t N=true->valT t a=valG t a
 | .mk kind v k l,N,a,h=>by
  rw [mayB,Bool.and_eq_true] at h
  have hc:=cnt_same l N a h.2
  have hn:=h.1
  rw [valT,valG_k]
  unfold nodeOk at hn
  simp only at hn
  by_cases h1:kind=1
  ·rw [if_pos h1,if_pos h1]
  rw [if_neg h1] at hn ⊢
  rw [if_neg h1]
  by_cases h2:kind=2
  ·rw [if_pos h2] at hn
   rw [if_pos h2,if_pos h2]
   have hv:=(of_decide_eq_true hn).1
   unfold valB bitG
   rw [decide_eq_true (show 0<v by omega),decide_eq_true (show 0<=v by omega)]
  rw [if_neg h2] at hn ⊢
  rw [if_neg h2]
  by_cases h3:kind=3
  ·rw [if_pos h3] at hn
   rw [if_pos h3,if_pos h3]
   obtain ⟨x,rfl⟩:=List.length_eq_one_iff.1 (of_decide_eq_true hn).2.2
   have hx:valT x a=valG x a:=by
    have h5:=h.2
    rw [mayAll,Bool.and_eq_true] at h5
    exact val_same x N a h5.1
   rw [cntT,cntT,notG,hx]
   cases valG x a <;> rfl
  rw [if_neg h3] at hn ⊢
  rw [if_neg h3,hc]
  by_cases h4:kind=4
  ·rw [if_pos h4,if_pos h4]
  rw [if_neg h4,if_neg h4]
  by_cases h5:kind=5
  ·rw [if_pos h5,if_pos h5]
  rw [if_neg h5,if_neg h5]
  rw [if_neg (by omega)] at hn
  by_cases h6:kind=6
  ·rw [if_pos h6]
  ·rw [if_neg h6] at hn;cases hn
theorem cnt_same:∀ (l:List Tr) (N:Int) (a:List Bool),mayAll l N=true->cntT l a=cntG l a
 | [],_,_,_=>by rw [cntT,cntG]
 | t :: r,N,a,h=>by
  rw [mayAll,Bool.and_eq_true] at h
  rw [cntT,cntG,val_same t N a h.1,cnt_same r N a h.2]
end
mutual
theorem wide_size:∀ t:Tr,wideB t=true->4095<t.size
 | .mk _ _ _ l,h=>by
  rw [wideB,Bool.or_eq_true,decide_eq_true_eq] at h
  rw [Tr.size]
  rcases h with h | h
  ·have:=length_le_sizes l;omega
  ·have:=wides_size l h;omega
theorem wides_size:∀ l:List Tr,wideAny l=true->4095<sizes l
 | [],h=>by cases h
 | t :: r,h=>by
  rw [wideAny,Bool.or_eq_true] at h
  rw [sizes]
  rcases h with h | h
  ·have:=wide_size t h;omega
  ·have:=wides_size r h;omega
end
structure GateOk (s:Schl) (l:List Plc) (env:List Ev) (f:Frm) (t:Tr) (a:List Bool):Prop where
 pos:1<=a.length
 small:a.length<=6000
 may:mayB t ((a.length:Int) - 1)=true
 gates:gatesF t a.length=((litF t a.length).1,(litF t a.length).2.1,(litF t a.length).2.2,0)
 ok:∀ x∈(litF t a.length).2.1,LinOk x 65536
 lins:linsV (litF t a.length).2.1 (a++newsV t a)=true
 truth:truthF (litF t a.length).1 (a++newsV t a)=(evHolds s l env f).1
 holds:(evHolds s l env f).2=0
 lit : -1000000<=(litF t a.length).1/\(litF t a.length).1<=1000000
 len:(litF t a.length).2.1.length<=2000
 news:(newsV t a).length<=400
theorem ggate_plain (s:Schl) (l:List Plc) (env:List Ev) (f:Frm) (h1:(gTreeF s env f).2=0) (h2:(wkTrueF s l).2=0) (h3:(gTreeF s env f).1.size<=400):GateOk s l env f (gTreeF s env f).1 (wkTrueF s l).1:=by
 have hp:=(ghold_plain s l env f).2 h1
 have hv:=hp.2 h2
 have h4:weekCheck s l=0:=by
  unfold wkTrueF at h2
  split at h2
  ·rename_i h;exact absurd h2 h
  ·rename_i h;exact Classical.byContradiction h
 have hs:schCheck s=0:=by
  unfold weekCheck at h4
  split at h4
  ·rename_i h;exact absurd h4 h
  ·rename_i h;exact Classical.byContradiction h
 have e2:wkTrueF s l=(trueK s l l.length,0):=by unfold wkTrueF;rw [if_neg (by simpa using h4)]
 have hvs:=vars_small hs
 have he:(evHolds s (firstW s) env f).2=0:=by
  unfold gTreeF at h1
  split at h1
  ·rename_i h;exact absurd h1 h
  ·rename_i h;exact Classical.byContradiction h
 have e1:(gTreeF s env f).1=gtF s env f:=by
  unfold gTreeF at h1 ⊢
  rw [if_neg (by simpa using he)] at h1 ⊢
  split
  ·rfl
  ·rename_i h;rw [if_neg h] at h1;cases h1
 have hal:(wkTrueF s l).1.length=wkVars s+1:=by rw [e2];exact trueK_len s l l.length
 have hm0:=gt_may s (firstW s) f.size f env (Nat.le_refl _) (evHolds_ok.1 he)
 rw [<- e1] at hm0
 generalize (gTreeF s env f).1=t at hm0 h3 hp hv
 generalize (wkTrueF s l).1=a at hal hv
 have hm:mayB t ((a.length:Int) - 1)=true:=by rw [hal];simpa using hm0
 have hw:wideB t=false:=by
  cases hb:wideB t with
  | false=>rfl
  | true=>have:=wide_size t hb;omega
 have hbd:=litF_bound t a.length _ hm (by omega)
 have hok:=litF_ok t a.length _ hm (by omega) (by omega) hw
 have hnl:=litF_lins t a.length
 have hnv:=newsV_length t a a.length _ hm
 have hmain:=litF_main t _ a (newsV t a) [] hm (by omega) (by omega) rfl
 rw [List.append_nil] at hmain
 have hg:gatesF t a.length=((litF t a.length).1,(litF t a.length).2.1,(litF t a.length).2.2,0):=by
  rcases gatesF_cases t a.length (by omega) (by omega) with ⟨hc,hg⟩ | ⟨hc,hw2,hg⟩ | ⟨hc,hw2,hov,hg⟩ | ⟨hc,hw2,hov,hg⟩
  ·exact absurd (show checkE t ((a.length:Int) - 1)=0 from by unfold checkE;rw [if_neg (by rw [hm];simp;omega),if_neg (by omega)]) hc
  ·rw [hw] at hw2;cases hw2
  ·omega
  ·exact hg
 exact ⟨by omega,by omega,hm,hg,fun x hx=>(hok x hx).mono (by omega),by rw [hmain.1];simp,by rw [hmain.2,val_same t _ a hm,hv],by rw [hv],⟨by omega,by omega⟩,by omega,by omega⟩
end Go.Chalk
