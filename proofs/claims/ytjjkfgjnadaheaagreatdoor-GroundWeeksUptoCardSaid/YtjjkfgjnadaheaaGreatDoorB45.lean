/- Joined texts: GTop. -/
import Derived.Test.YtjjkfgjnadaheaaGreatDoorB44
set_option linter.unusedVariables false
set_option linter.unusedSimpArgs false
set_option maxHeartbeats 4000000
set_option maxRecDepth 100000

/- ground.Tree. (written by tools/gen_gtop.py) -/
namespace Go.Chalk
open Go.RowKit
def zeroTr:Tr:=.mk 0 0 0 []
def gTreeF (s:Schl) (env:List Ev) (f:Frm):Tr×Int :=
 if (evHolds s (firstW s) env f).2 ≠ 0 then (zeroTr,(evHolds s (firstW s) env f).2) else if (gtF s env f).size<=65536 then (gtF s env f,0) else (zeroTr,2)
theorem zeroTr_at {W:World} {F:Nat->Prop}:DAt W F zeroTr.toD [.int .i64 0,.int .i64 0,.int .i64 0,.slice none 0 0]:=Tr.close (u:=⟨none,0,0,0⟩) (i64_small (by decide) (by decide)) (i64_small (by decide) (by decide)) (i64_small (by decide) (by decide)) (SlIn.nil (Nat.zero_le _) _ _ _)
end Go.Chalk
namespace Go.Proofs.YtjjkfgjnadaheaaGreatDoor
open Go.RowKit Go.Chalk
attribute [local go_sem] Oper.semAt_some
def TopGood (B xb:Nat) (t:Tr) (W:World):Prop:=t.size<=65536/\∃ k0 k1 k2 a n cap,W.heap[xb]?=some (.cells #[.int .i64 k0,.int .i64 k1,.int .i64 k2,.slice a n cap] 39 (0,0))/\DAt W (fun k=>B<=k/\k<W.heap.size) t.toD [.int .i64 k0,.int .i64 k1,.int .i64 k2,.slice a n cap]
theorem TopGood.kept {B xb c:Nat} {t:Tr} {W W':World} (h:TopGood B xb t W) (hm:Chalk.Mod (fun k=>k=c) W W') (hcB:c<B) (hcx:c ≠ xb):TopGood B xb t W':=by
 obtain ⟨h1,k0,k1,k2,a,n,cap,h2,h3⟩:=h
 have hz:=hm.size
 exact ⟨h1,k0,k1,k2,a,n,cap,heap_kept h2 hm (fun h=>hcx h.symm),DAt.mono (fun k hk=>⟨hk.1,by omega⟩) _ _ (DAt.agree (hm.agree (fun k hk=>⟨hk.2,by have:=hk.1;omega⟩)) _ _ h3)⟩
theorem TopGood.low {B B' xb:Nat} {t:Tr} {W:World} (h:TopGood B xb t W) (hB:B'<=B):TopGood B' xb t W:=by
 obtain ⟨h1,k0,k1,k2,a,n,cap,h2,h3⟩:=h
 exact ⟨h1,k0,k1,k2,a,n,cap,h2,DAt.mono (fun k hk=>⟨by omega,hk.2⟩) _ _ h3⟩
theorem gtree1_any (w0:World) (s:Schl) (x:SchA) (f:Frm) (fa:FrmA) (env:List Ev) (z:SlA) (w:World) (mb eb fb xb:Nat) (hI:ItoaAt) (hf:SchFit s) (hs:SchIn w0 (·<w0.heap.size) s x) (hg:GG w0) (ho:HoldsOk s (firstW s) env f) (hff:FrmFit f) (hel:env.length<=1200000)
  (h0:Below w0.heap.size w0 w) (hmb0:w0.heap.size<=mb) (hm:MkB w mb s x (65536:Nat)) (hx:FrmIn w0 (·<w0.heap.size) f fa) (hz:SlIn w0 (·<w0.heap.size) (env.map Ev.toD) z)
  (he:w.heap[eb]?=some (.cells #[.slice z.a env.length z.cap] 29 (0,0))) (hfb:FrmBox w fb f fa) (hxb:w.heap[xb]?=some (.cells #[.int .i64 0,.int .i64 0,.int .i64 0,.slice none 0 0] 39 (0,0))) (hxm:xb ≠ mb) :
  Calls Tryz.prog 37 #[.pointer (some ⟨mb,0,none⟩),.pointer (some ⟨eb,0,none⟩),.pointer (some ⟨fb,0,none⟩),.pointer (some ⟨xb,0,none⟩)] w fun e w'=>Chalk.Mod (fun k=>k=xb∨k=mb) w w'/\((e=.returned (.tuple #[])/\TopGood w.heap.size xb (gtF s env f) w')∨(e=.panicked (fullP 151)/\65536<(gtF s env f).size)):=by
 have hmlt:=hm.lt
 have HT:=Lh (gtree_any w0 s x hI hf hs hg f.size f fa env z w mb 65536 (Nat.le_refl _) ho hff (by have:=ho.depth;omega) (Nat.le_refl _) h0 hmb0 hm hx ((hz.agree (agree_of_below h0)).mono (fun k hk=>⟨by have:=h0.size;omega,by omega⟩)))
 have c0:w.cell? ⟨eb,0,none⟩=some (.slice z.a env.length z.cap):=cH he rfl
 obtain ⟨f0,f1,f2,f3,f4,f5⟩:=hfb.cells
 have HX:=Lh (aI hxb hxm)
 clear hI hf hs hg ho hff hel h0 hmb0 hm hx hz he hfb hxb hxm
 generalize gtF s env f=t at HT ⊢
 simp only [ndV,FrmA.cells,SlA.val] at HT f0 f1 f2 f3 f4 f5
 go_enter Tryz.func37,Tryz.ntmps37
 go_wp2_with fail
 refine HT.out.mono ?_
 rintro e w1 ⟨hm1,⟨hle,⟨cs,rfl,hd⟩,hmk⟩ | ⟨hlt,rfl,l',hmk⟩⟩
 rotate_left
 ·exact ⟨rfl,hm1.mono (fun _ h=>.inr h),.inr ⟨rfl,hlt⟩⟩
 have hl4:=DAt.length _ _ hd
 rw [Tr.width] at hl4
 obtain ⟨d0,d1,d2,d3,rfl⟩:=len_four hl4
 obtain ⟨tk0,tk1,tk2,ta,tn,tcap,rfl,rfl,rfl,rfl⟩:=TreeV.shape hd
 have k1:=heap_kept HX.out.1 hm1 HX.out.2
 have x0:w1.cell? ⟨xb,0,none⟩=some (.int .i64 0):=cH k1 rfl
 have y0:w1.frozen? ⟨xb,0,none⟩=false:=fH k1
 have x1:w1.cell? ⟨xb,1,none⟩=some (.int .i64 0):=cH k1 rfl
 have y1:w1.frozen? ⟨xb,1,none⟩=false:=fH k1
 have x2:w1.cell? ⟨xb,2,none⟩=some (.int .i64 0):=cH k1 rfl
 have y2:w1.frozen? ⟨xb,2,none⟩=false:=fH k1
 have x3:w1.cell? ⟨xb,3,none⟩=some (.slice none 0 0):=cH k1 rfl
 have y3:w1.frozen? ⟨xb,3,none⟩=false:=fH k1
 have hlx:=(gS k1).1
 have HD:=Lh (aI hd (aI hm1 (aI hle k1)))
 have hwl:xb<w.heap.size:=(gS HX.out.1).1
 clear hd hm1 hle hmk k1 hl4 c0 f0 f1 f2 f3 f4 f5
 go_wp2_with fail
 go_end0
 have k2:=put4_heap HD.out.2.2.2 (.int .i64 tk0) (.int .i64 tk1) (.int .i64 tk2) (.slice ta tn tcap)
 have hm2:=put4_mod w1 xb 0 (.int .i64 tk0) (.int .i64 tk1) (.int .i64 tk2) (.slice ta tn tcap)
 unfold put4 at k2 hm2
 simp only [Nat.zero_add] at k2 hm2
 refine ⟨(HD.out.2.1.mono (fun _ h=>.inr h)).trans hm2 (fun _ _ h=>.inl h),.inl ⟨rfl,HD.out.2.2.1,tk0,tk1,tk2,ta,tn,tcap,k2,?_⟩⟩
 have hz:=hm2.size
 exact DAt.mono (fun k hk=>⟨hk.1,by have:=hk.2;omega⟩) _ _ (DAt.agree (hm2.agree (fun k hk=>⟨hk.2,by have:=hk.1;omega⟩)) _ _ HD.out.1)

def TopP (w:World) (r:Tr×Int) (e:Ending) (w':World):Prop:=∃ k0 k1 k2 a n cap,e=.returned (.tuple #[.agg #[.int .i64 k0,.int .i64 k1,.int .i64 k2,.slice a n cap],.int .i64 r.2])/\DAt w' (fun k=>w.heap.size<=k/\k<w'.heap.size) r.1.toD [.int .i64 k0,.int .i64 k1,.int .i64 k2,.slice a n cap]/\Below w.heap.size w w'
theorem gTree_any (s:Schl) (x:SchA) (f:Frm) (fa:FrmA) (env:List Ev) (z:SlA) (w:World) (hI:ItoaAt) (hf:SchFit s) (hs:SchIn w (·<w.heap.size) s x) (hg:GG w) (hff:FrmFit f) (hel:env.length<=1200000) (hmax:∀ e∈env,e.name.length<=4000000) (hx:FrmIn w (·<w.heap.size) f fa) (hz:SlIn w (·<w.heap.size) (env.map Ev.toD) z) :
  Calls Tryz.prog 12 #[.agg (x.cells s).toArray,.slice z.a env.length z.cap,ndV (f,fa)] w (TopP w (gTreeF s env f)):=by
 obtain ⟨W0,hW0⟩:∃ W0,W0=((((w.alloc (.cells #[.slice x.slots.a s.slots.length x.slots.cap,.slice x.rooms.a s.rooms.length x.rooms.cap,.slice x.people.a s.people.length x.people.cap,.slice x.groups.a s.groups.length x.groups.cap,.slice x.lessons.a s.lessons.length x.lessons.cap] 28)).alloc (.cells #[.slice z.a env.length z.cap] 29)).alloc (.cells #[.int .i64 f.kind,.string ⟨f.name.toArray⟩,.int .i64 f.n,.slice fa.t.a f.terms.length fa.t.cap,.slice fa.b.a f.binds.length fa.b.cap,.slice fa.l.a f.l.length fa.l.cap] 34)).alloc (.cells #[.int .i64 0,.int .i64 0,.int .i64 0,.slice none 0 0] 39)).alloc (.cells #[.slice x.slots.a s.slots.length x.slots.cap,.slice x.rooms.a s.rooms.length x.rooms.cap,.slice x.people.a s.people.length x.people.cap,.slice x.groups.a s.groups.length x.groups.cap,.slice x.lessons.a s.lessons.length x.lessons.cap,.int .i64 0] 80):=⟨_,rfl⟩
 have hb0:Below w.heap.size w W0:=by rw [hW0];exact (((((Below.refl _ _).alloc (Nat.le_refl _) _).alloc (by simp) _).alloc (by simp;omega) _).alloc (by simp;omega) _).alloc (by simp;omega) _
 have hz0:W0.heap.size=w.heap.size+5:=by rw [hW0];simp
 have g0:W0.heap[w.heap.size]?=some (.cells #[.slice x.slots.a s.slots.length x.slots.cap,.slice x.rooms.a s.rooms.length x.rooms.cap,.slice x.people.a s.people.length x.people.cap,.slice x.groups.a s.groups.length x.groups.cap,.slice x.lessons.a s.lessons.length x.lessons.cap] 28 (0,0)):=by rw [hW0];simp only [heap_get,World.size_alloc];repeat (first | rw [if_pos trivial] | rw [if_pos rfl] | rw [if_pos (by omega)] | rw [if_neg (by omega)])
 have g1:W0.heap[w.heap.size+1]?=some (.cells #[.slice z.a env.length z.cap] 29 (0,0)):=by rw [hW0];simp only [heap_get,World.size_alloc];repeat (first | rw [if_pos trivial] | rw [if_pos rfl] | rw [if_pos (by omega)] | rw [if_neg (by omega)])
 have g2:W0.heap[w.heap.size+1+1]?=some (.cells #[.int .i64 f.kind,.string ⟨f.name.toArray⟩,.int .i64 f.n,.slice fa.t.a f.terms.length fa.t.cap,.slice fa.b.a f.binds.length fa.b.cap,.slice fa.l.a f.l.length fa.l.cap] 34 (0,0)):=by rw [hW0];simp only [heap_get,World.size_alloc];repeat (first | rw [if_pos trivial] | rw [if_pos rfl] | rw [if_pos (by omega)] | rw [if_neg (by omega)])
 have g3:W0.heap[w.heap.size+1+1+1]?=some (.cells #[.int .i64 0,.int .i64 0,.int .i64 0,.slice none 0 0] 39 (0,0)):=by rw [hW0];simp only [heap_get,World.size_alloc];repeat (first | rw [if_pos trivial] | rw [if_pos rfl] | rw [if_pos (by omega)] | rw [if_neg (by omega)])
 have g4:W0.heap[w.heap.size+1+1+1+1]?=some (.cells #[.slice x.slots.a s.slots.length x.slots.cap,.slice x.rooms.a s.rooms.length x.rooms.cap,.slice x.people.a s.people.length x.people.cap,.slice x.groups.a s.groups.length x.groups.cap,.slice x.lessons.a s.lessons.length x.lessons.cap,.int .i64 0] 80 (0,0)):=by rw [hW0];simp only [heap_get,World.size_alloc];repeat (first | rw [if_pos trivial] | rw [if_pos rfl] | rw [if_pos (by omega)] | rw [if_neg (by omega)])
 have HFI:=Lh (fun (W:World) (hm:MkB W (w.heap.size+1+1+1+1) s x 0)=>first_any s x 0 (w.heap.size+1+1+1+1) W hm hf.lessons)
 have HHD:=Lh (fun (y1:SlA) (W:World) (hb:Below w.heap.size w W) (hy:SlIn W (·<W.heap.size) ((firstW s).map Plc.toD) y1)=>eholds_any s x (firstW s) y1 env z f fa W hI hf hff (hg.below hb) (hs.later hb hb.size) hy (by simp only [firstW,List.length_replicate];have:=hf.lessons;omega) (hz.later hb hb.size) (by omega) hmax (hx.later hb hb.size))
 have HMD:=Lh (fun (W:World) (lb:Array Value) (S:Nat->Prop) (Good Bad:World->Prop)=>gmade_any s x 37 lb W S Good Bad (enters_of Tryz.func37 (by kernel_rfl) rfl))
 have HT1:=Lh (fun (W:World) (mb eb fb xb:Nat) (ho:HoldsOk s (firstW s) env f) (hb:Below w.heap.size w W) (hmb:w.heap.size<=mb) (hm:MkB W mb s x (65536:Nat))=>gtree1_any w s x f fa env z W mb eb fb xb hI hf hs hg ho hff hel hb hmb hm hx hz)
 have HB:=Lh (aI hb0 (aI hz0 (aI g0 (aI g1 (aI g2 (aI g3 g4))))))
 have HW0:=Lh hW0
 have HR:Hid (gTreeF s env f=if (evHolds s (firstW s) env f).2 ≠ 0 then (zeroTr,(evHolds s (firstW s) env f).2) else if (gtF s env f).size<=65536 then (gtF s env f,0) else (zeroTr,2)):=Lh rfl
 have hmf:∀ (fn:Fn) (first cap:Array Value) (w:World),(Instr.makeFunc fn first cap).run Tryz.prog w=.ok (.func fn first cap) w:=fun _ _ _ _=>rfl
 have HOK:Hid ((evHolds s (firstW s) env f).2=0->HoldsOk s (firstW s) env f):=Lh (fun h=>evHolds_ok.1 h)
 clear hI hf hs hg hff hel hmax hx hz hb0 hz0 g0 g1 g2 g3 g4 hW0
 generalize gTreeF s env f=res at HR ⊢
 obtain ⟨hv,hhv⟩:∃ hv,evHolds s (firstW s) env f=hv:=⟨_,rfl⟩
 obtain ⟨bb,bc⟩:=hv
 rw [hhv] at HHD HR HOK
 clear hhv
 simp only [SchA.cells,SlA.val,ndV,FrmA.cells] at HHD HMD HW0 ⊢
 have HKS:Hid (∀ w',Below W0.heap.size W0 w'->w'.cell? ⟨w.heap.size,0,none⟩=some (.slice x.slots.a s.slots.length x.slots.cap)/\w'.cell? ⟨w.heap.size,1,none⟩=some (.slice x.rooms.a s.rooms.length x.rooms.cap)/\w'.cell? ⟨w.heap.size,2,none⟩=some (.slice x.people.a s.people.length x.people.cap)/\w'.cell? ⟨w.heap.size,3,none⟩=some (.slice x.groups.a s.groups.length x.groups.cap)/\w'.cell? ⟨w.heap.size,4,none⟩=some (.slice x.lessons.a s.lessons.length x.lessons.cap)/\w'.cell? ⟨w.heap.size+1,0,none⟩=some (.slice z.a env.length z.cap)/\w'.cell? ⟨w.heap.size+1+1,0,none⟩=some (.int .i64 f.kind)/\w'.cell? ⟨w.heap.size+1+1,1,none⟩=some (.string ⟨f.name.toArray⟩)/\w'.cell? ⟨w.heap.size+1+1,2,none⟩=some (.int .i64 f.n)/\w'.cell? ⟨w.heap.size+1+1,3,none⟩=some (.slice fa.t.a f.terms.length fa.t.cap)/\w'.cell? ⟨w.heap.size+1+1,4,none⟩=some (.slice fa.b.a f.binds.length fa.b.cap)/\w'.cell? ⟨w.heap.size+1+1,5,none⟩=some (.slice fa.l.a f.l.length fa.l.cap)):=Lh (fun w' hW=>by
  have e0:=(hW.block _ (gS HB.out.2.2.1).1).trans HB.out.2.2.1
  have e1:=(hW.block _ (gS HB.out.2.2.2.1).1).trans HB.out.2.2.2.1
  have e2:=(hW.block _ (gS HB.out.2.2.2.2.1).1).trans HB.out.2.2.2.2.1
  exact ⟨cH e0 rfl,cH e0 rfl,cH e0 rfl,cH e0 rfl,cH e0 rfl,cH e1 rfl,cH e2 rfl,cH e2 rfl,cH e2 rfl,cH e2 rfl,cH e2 rfl,cH e2 rfl⟩)
 go_enter Tryz.func12,Tryz.ntmps12
 go_wp2_with fail
 rw [<- HW0.out]
 refine wp_region_U 8 (S:=fun w'=>w'.cell? ⟨w.heap.size,0,none⟩=some (.slice x.slots.a s.slots.length x.slots.cap)/\w'.cell? ⟨w.heap.size,1,none⟩=some (.slice x.rooms.a s.rooms.length x.rooms.cap)/\w'.cell? ⟨w.heap.size,2,none⟩=some (.slice x.people.a s.people.length x.people.cap)/\w'.cell? ⟨w.heap.size,3,none⟩=some (.slice x.groups.a s.groups.length x.groups.cap)/\w'.cell? ⟨w.heap.size,4,none⟩=some (.slice x.lessons.a s.lessons.length x.lessons.cap)/\w'.cell? ⟨w.heap.size+1,0,none⟩=some (.slice z.a env.length z.cap)/\w'.cell? ⟨w.heap.size+1+1,0,none⟩=some (.int .i64 f.kind)/\w'.cell? ⟨w.heap.size+1+1,1,none⟩=some (.string ⟨f.name.toArray⟩)/\w'.cell? ⟨w.heap.size+1+1,2,none⟩=some (.int .i64 f.n)/\w'.cell? ⟨w.heap.size+1+1,3,none⟩=some (.slice fa.t.a f.terms.length fa.t.cap)/\w'.cell? ⟨w.heap.size+1+1,4,none⟩=some (.slice fa.b.a f.binds.length fa.b.cap)/\w'.cell? ⟨w.heap.size+1+1,5,none⟩=some (.slice fa.l.a f.l.length fa.l.cap)) (by kernel_rfl) (HKS.out _ (Below.refl _ _).drew) (fun hHeld=>?_)
 refine tkU (i:=0) rfl hHeld ?_
 try simp only [Act.put,ub1,ub2,ub3]
 refine tkU (i:=2) rfl hHeld ?_
 try simp only [Act.put,ub1,ub2,ub3]
 refine tkU (i:=3) rfl hHeld ?_
 try simp only [Act.put,ub1,ub2,ub3]
 refine ready_U (rs:=[1]) (by kernel_rfl) (by simp) ?_
 refine cons_U rfl (fun K hK=>?_) nil_U
 go_simp
 go_at_call 35
 refine (HFI.out W0.drew HB.out.2.2.2.2.2.2).mono ?_
 rintro e w3 ⟨y1,rfl,hy,hb⟩
 have Hw3:=Lh (aI (Below.trans (Below.refl W0.heap.size W0).drew (hb.mono (Nat.le_refl _))) (hy.mono (fun k hk=>hk.2)))
 clear hb hy
 go_simp
 refine hK.out _ _ ?_ (fun hHeld2=>?_)
 ·exact HKS.out _ Hw3.out.1
 clear hK K hHeld
 have hHeld:=hHeld2
 clear hHeld2
 try simp only [Act.put,ub1,ub2,ub3]
 refine ready_U (rs:=[4]) (by kernel_rfl) (by simp) ?_
 refine cons_U rfl (fun K hK=>?_) nil_U
 go_simp
 go_at_call 20
 refine (HHD.out y1 w3 (HB.out.1.trans (Hw3.out.1.mono HB.out.1.size)) Hw3.out.2).mono ?_
 rintro e w5 ⟨rfl,hb⟩
 have Hw5:=Lh (Hw3.out.1.trans (hb.mono Hw3.out.1.size))
 clear hb
 go_simp
 refine hK.out _ _ ?_ (fun hHeld2=>?_)
 ·exact HKS.out _ Hw5.out
 clear hK K hHeld
 have hHeld:=hHeld2
 clear hHeld2
 try simp only [Act.put,ub1,ub2,ub3]
 refine tkU (i:=5) rfl hHeld ?_
 try simp only [Act.put,ub1,ub2,ub3]
 refine tkU (i:=6) rfl hHeld ?_
 try simp only [Act.put,ub1,ub2,ub3]
 refine tkU (i:=7) rfl hHeld ?_
 try simp only [Act.put,ub1,ub2,ub3]
 refine ready_U (rs:=[8]) (by kernel_rfl) (by simp) ?_
 refine cons_V rfl (by kernel_rfl) (fun K hK=>?_) nil_U
 go_simp
 refine hK.out _ _ ?_
 clear hK K
 try simp only [Act.put,ub1,ub2,ub3]
 refine done_U (by kernel_rfl) ?_ _
 clear hHeld
 by_cases hbc:bc ≠ 0
 ·have d1:(bc != 0)=true:=by simpa using hbc
  have HE:Hid (res=(zeroTr,bc)):=Lh (by rw [HR.out,if_pos hbc])
  clear hbc
  have r5:=(Hw5.out.block _ (gS HB.out.2.2.2.2.2.1).1).trans HB.out.2.2.2.2.2.1
  have HR5:=Lh r5
  have x0:w5.cell? ⟨w.heap.size+1+1+1,0,none⟩=some (.int .i64 0):=cH r5 rfl
  have f0:w5.frozen? ⟨w.heap.size+1+1+1,0,none⟩=false:=fH r5
  have x1:w5.cell? ⟨w.heap.size+1+1+1,1,none⟩=some (.int .i64 0):=cH r5 rfl
  have f1:w5.frozen? ⟨w.heap.size+1+1+1,1,none⟩=false:=fH r5
  have x2:w5.cell? ⟨w.heap.size+1+1+1,2,none⟩=some (.int .i64 0):=cH r5 rfl
  have f2:w5.frozen? ⟨w.heap.size+1+1+1,2,none⟩=false:=fH r5
  have x3:w5.cell? ⟨w.heap.size+1+1+1,3,none⟩=some (.slice none 0 0):=cH r5 rfl
  have f3:w5.frozen? ⟨w.heap.size+1+1+1,3,none⟩=false:=fH r5
  have hlr:w.heap.size+1+1+1<w5.heap.size:=(gS r5).1
  clear r5
  go_wp2_with fail
  have hq3:=put4_heap HR5.out (.int .i64 0) (.int .i64 0) (.int .i64 0) (.slice none 0 0)
  have hm3:=put4_mod w5 (w.heap.size+1+1+1) 0 (.int .i64 0) (.int .i64 0) (.int .i64 0) (.slice none 0 0)
  unfold put4 at hq3 hm3
  simp only [Nat.zero_add] at hq3 hm3
  generalize (((w5.setCell _ _).setCell _ _).setCell _ _).setCell _ _=W3 at hq3 hm3 ⊢
  have HY:=Lh (aI hq3 hm3)
  have y0:W3.cell? ⟨w.heap.size+1+1+1,0,none⟩=some (.int .i64 0):=cH hq3 rfl
  have y1:W3.cell? ⟨w.heap.size+1+1+1,1,none⟩=some (.int .i64 0):=cH hq3 rfl
  have y2:W3.cell? ⟨w.heap.size+1+1+1,2,none⟩=some (.int .i64 0):=cH hq3 rfl
  have y3:W3.cell? ⟨w.heap.size+1+1+1,3,none⟩=some (.slice none 0 0):=cH hq3 rfl
  clear hq3 hm3
  refine bodyPost_ret (v:=.tuple #[.agg #[.int .i64 0,.int .i64 0,.int .i64 0,.slice none 0 0],.int .i64 bc]) (by simp [results,Tryz.results12,go_sem,y0,y1,y2,y3]) rfl ?_
  rw [HE.out]
  exact ⟨0,0,0,none,0,0,rfl,zeroTr_at,(HB.out.1.trans (Hw5.out.mono HB.out.1.size)).trans (HY.out.2.below (by have:=HB.out.1.size;have:=Hw5.out.size;omega) (fun k hk=>by omega))⟩
 ·have hbc0:bc=0:=by simpa using hbc
  subst hbc0
  have ho:=HOK.out rfl
  clear hbc
  have r5:=(Hw5.out.block _ (gS HB.out.2.2.2.2.2.1).1).trans HB.out.2.2.2.2.2.1
  have HR5:=Lh r5
  have x0:w5.cell? ⟨w.heap.size+1+1+1,0,none⟩=some (.int .i64 0):=cH r5 rfl
  have f0:w5.frozen? ⟨w.heap.size+1+1+1,0,none⟩=false:=fH r5
  have x1:w5.cell? ⟨w.heap.size+1+1+1,1,none⟩=some (.int .i64 0):=cH r5 rfl
  have f1:w5.frozen? ⟨w.heap.size+1+1+1,1,none⟩=false:=fH r5
  have x2:w5.cell? ⟨w.heap.size+1+1+1,2,none⟩=some (.int .i64 0):=cH r5 rfl
  have f2:w5.frozen? ⟨w.heap.size+1+1+1,2,none⟩=false:=fH r5
  have x3:w5.cell? ⟨w.heap.size+1+1+1,3,none⟩=some (.slice none 0 0):=cH r5 rfl
  have f3:w5.frozen? ⟨w.heap.size+1+1+1,3,none⟩=false:=fH r5
  have hlr:w.heap.size+1+1+1<w5.heap.size:=(gS r5).1
  obtain ⟨q0,q1,q2,q3,q4,_⟩:=HKS.out w5 Hw5.out
  clear r5
  obtain ⟨WB,hWB⟩:∃ WB,WB=w5.alloc (.cells #[.int .i64 0,.int .i64 0,.int .i64 0,.slice none 0 0] 39):=⟨_,rfl⟩
  have hbB:Below w5.heap.size w5 WB:=by rw [hWB];exact (Below.refl _ _).alloc (Nat.le_refl _) _
  have hzB:WB.heap.size=w5.heap.size+1:=by rw [hWB];simp
  have hkB:WB.heap[w5.heap.size]?=some (.cells #[.int .i64 0,.int .i64 0,.int .i64 0,.slice none 0 0] 39 (0,0)):=by rw [hWB,heap_get,if_pos rfl]
  have hbw:Below W0.heap.size W0 WB:=Hw5.out.trans (hbB.mono Hw5.out.size)
  have hbww:Below w.heap.size w WB:=HB.out.1.trans (hbw.mono HB.out.1.size)
  have hz0:=HB.out.2.1
  have hs5:=Hw5.out.size
  have e1:=(hbw.block _ (gS HB.out.2.2.2.1).1).trans HB.out.2.2.2.1
  have e2:=(hbw.block _ (gS HB.out.2.2.2.2.1).1).trans HB.out.2.2.2.2.1
  have e3:=(hbw.block _ (gS HB.out.2.2.2.2.2.1).1).trans HB.out.2.2.2.2.2.1
  have hmd:=HMD.out WB #[.pointer (some ⟨w.heap.size+1,0,none⟩),.pointer (some ⟨w.heap.size+1+1,0,none⟩),.pointer (some ⟨w5.heap.size,0,none⟩)] (fun k=>k=w5.heap.size) (TopGood (WB.heap.size+3) w5.heap.size (gtF s env f)) (fun _=>65536<(gtF s env f).size) (fun W W' h hm=>h.kept hm (by omega) (by omega)) (fun _ _ h _=>h) (fun k hk=>by omega) (fun W hW hm=>(HT1.out W (WB.heap.size+1+1) (w.heap.size+1) (w.heap.size+1+1) w5.heap.size ho (hbww.trans (hW.mono hbww.size)) (by have:=hbww.size;omega) hm ((hW.block _ (gS e1).1).trans e1) ((hW.block _ (gS e2).1).trans e2) ((hW.block _ (by omega)).trans hkB) (by omega)).mono (fun e W' ⟨k1,k2⟩=>⟨k1,by
   rcases k2 with ⟨k2,k3⟩ | k2
   ·exact .inl ⟨k2,k3.low (by have:=hm.lt;omega)⟩
   ·exact .inr k2⟩))
  have HMB:=Lh hmd
  have HBB:=Lh (aI hbww (aI hzB (aI e3 (aI hkB (aI hz0 hs5)))))
  have HWB:=Lh hWB.symm
  have hlw5:w.heap.size<w5.heap.size:=by omega
  clear hmd hbB hzB hkB hbw hbww hz0 hs5 e1 e2 e3 hWB ho
  go_wp2_with fail
  rw [HWB.out]
  refine HMB.out.mono ?_
  rintro e w6 ⟨hm6,⟨rfl,hg6⟩ | ⟨rfl,hb6⟩⟩
  ·obtain ⟨hle,k0,k1,k2,a,n,cap,hx6,hd6⟩:=hg6
   have r6:=heap_kept HBB.out.2.2.1 hm6 (by have:=HBB.out;omega)
   have HR6:=Lh r6
   have HX6:=Lh (aI hx6 (aI hd6 (aI hm6 hle)))
   have v0:w6.cell? ⟨w5.heap.size,0,none⟩=some (.int .i64 k0):=cH hx6 rfl
   have v1:w6.cell? ⟨w5.heap.size,1,none⟩=some (.int .i64 k1):=cH hx6 rfl
   have v2:w6.cell? ⟨w5.heap.size,2,none⟩=some (.int .i64 k2):=cH hx6 rfl
   have v3:w6.cell? ⟨w5.heap.size,3,none⟩=some (.slice a n cap):=cH hx6 rfl
   clear x0 x1 x2 x3 f0 f1 f2 f3 hlr q0 q1 q2 q3 q4
   have x0:w6.cell? ⟨w.heap.size+1+1+1,0,none⟩=some (.int .i64 0):=cH r6 rfl
   have f0:w6.frozen? ⟨w.heap.size+1+1+1,0,none⟩=false:=fH r6
   have x1:w6.cell? ⟨w.heap.size+1+1+1,1,none⟩=some (.int .i64 0):=cH r6 rfl
   have f1:w6.frozen? ⟨w.heap.size+1+1+1,1,none⟩=false:=fH r6
   have x2:w6.cell? ⟨w.heap.size+1+1+1,2,none⟩=some (.int .i64 0):=cH r6 rfl
   have f2:w6.frozen? ⟨w.heap.size+1+1+1,2,none⟩=false:=fH r6
   have x3:w6.cell? ⟨w.heap.size+1+1+1,3,none⟩=some (.slice none 0 0):=cH r6 rfl
   have f3:w6.frozen? ⟨w.heap.size+1+1+1,3,none⟩=false:=fH r6
   have hlr:w.heap.size+1+1+1<w6.heap.size:=(gS r6).1
   clear r6 hx6 hd6 hm6 hle
   go_wp2_with fail
   have hq3:=put4_heap HR6.out (.int .i64 k0) (.int .i64 k1) (.int .i64 k2) (.slice a n cap)
   have hm3:=put4_mod w6 (w.heap.size+1+1+1) 0 (.int .i64 k0) (.int .i64 k1) (.int .i64 k2) (.slice a n cap)
   unfold put4 at hq3 hm3
   simp only [Nat.zero_add] at hq3 hm3
   generalize (((w6.setCell _ _).setCell _ _).setCell _ _).setCell _ _=W3 at hq3 hm3 ⊢
   have HY:=Lh (aI hq3 hm3)
   have y0:W3.cell? ⟨w.heap.size+1+1+1,0,none⟩=some (.int .i64 k0):=cH hq3 rfl
   have y1:W3.cell? ⟨w.heap.size+1+1+1,1,none⟩=some (.int .i64 k1):=cH hq3 rfl
   have y2:W3.cell? ⟨w.heap.size+1+1+1,2,none⟩=some (.int .i64 k2):=cH hq3 rfl
   have y3:W3.cell? ⟨w.heap.size+1+1+1,3,none⟩=some (.slice a n cap):=cH hq3 rfl
   clear hq3 hm3
   refine bodyPost_ret (v:=.tuple #[.agg #[.int .i64 k0,.int .i64 k1,.int .i64 k2,.slice a n cap],.int .i64 0]) (by simp [results,Tryz.results12,go_sem,y0,y1,y2,y3]) rfl ?_
   have hz6:=HX6.out.2.2.1.size
   have hzz:=HBB.out.2.1
   have hz3:=HY.out.2.size
   have hw0:=HBB.out.2.2.2.2.1
   have hw5:=HBB.out.2.2.2.2.2
   have HE:res=(gtF s env f,0):=by rw [HR.out,if_neg (fun h=>h rfl),if_pos HX6.out.2.2.2]
   rw [HE]
   refine ⟨k0,k1,k2,a,n,cap,rfl,DAt.mono (fun k hk=>⟨by have:=hk.1;omega,by have:=hk.2;omega⟩) _ _ (DAt.agree (HY.out.2.agree (fun k hk=>⟨hk.2,by have:=hk.1;omega⟩)) _ _ HX6.out.2.1),(HBB.out.1.trans (HX6.out.2.2.1.below HBB.out.1.size (fun k hk=>by omega))).trans (HY.out.2.below (by omega) (fun k hk=>by omega))⟩
  ·have r6:=heap_kept HBB.out.2.2.1 hm6 (by have:=HBB.out;omega)
   have HR6:=Lh r6
   have HX6:=Lh (aI hm6 hb6)
   clear x0 x1 x2 x3 f0 f1 f2 f3 hlr q0 q1 q2 q3 q4
   have x0:w6.cell? ⟨w.heap.size+1+1+1,0,none⟩=some (.int .i64 0):=cH r6 rfl
   have f0:w6.frozen? ⟨w.heap.size+1+1+1,0,none⟩=false:=fH r6
   have x1:w6.cell? ⟨w.heap.size+1+1+1,1,none⟩=some (.int .i64 0):=cH r6 rfl
   have f1:w6.frozen? ⟨w.heap.size+1+1+1,1,none⟩=false:=fH r6
   have x2:w6.cell? ⟨w.heap.size+1+1+1,2,none⟩=some (.int .i64 0):=cH r6 rfl
   have f2:w6.frozen? ⟨w.heap.size+1+1+1,2,none⟩=false:=fH r6
   have x3:w6.cell? ⟨w.heap.size+1+1+1,3,none⟩=some (.slice none 0 0):=cH r6 rfl
   have f3:w6.frozen? ⟨w.heap.size+1+1+1,3,none⟩=false:=fH r6
   have hlr:w.heap.size+1+1+1<w6.heap.size:=(gS r6).1
   clear r6 hm6 hb6
   go_wp2_with fail
   have hq3:=put4_heap HR6.out (.int .i64 0) (.int .i64 0) (.int .i64 0) (.slice none 0 0)
   have hm3:=put4_mod w6 (w.heap.size+1+1+1) 0 (.int .i64 0) (.int .i64 0) (.int .i64 0) (.slice none 0 0)
   unfold put4 at hq3 hm3
   simp only [Nat.zero_add] at hq3 hm3
   generalize (((w6.setCell _ _).setCell _ _).setCell _ _).setCell _ _=W3 at hq3 hm3 ⊢
   have HY:=Lh (aI hq3 hm3)
   have y0:W3.cell? ⟨w.heap.size+1+1+1,0,none⟩=some (.int .i64 0):=cH hq3 rfl
   have y1:W3.cell? ⟨w.heap.size+1+1+1,1,none⟩=some (.int .i64 0):=cH hq3 rfl
   have y2:W3.cell? ⟨w.heap.size+1+1+1,2,none⟩=some (.int .i64 0):=cH hq3 rfl
   have y3:W3.cell? ⟨w.heap.size+1+1+1,3,none⟩=some (.slice none 0 0):=cH hq3 rfl
   clear hq3 hm3
   refine bodyPost_ret (v:=.tuple #[.agg #[.int .i64 0,.int .i64 0,.int .i64 0,.slice none 0 0],.int .i64 2]) (by simp [results,Tryz.results12,go_sem,y0,y1,y2,y3]) rfl ?_
   have hz6:=HX6.out.1.size
   have hzz:=HBB.out.2.1
   have hw0:=HBB.out.2.2.2.2.1
   have hw5:=HBB.out.2.2.2.2.2
   have HE:res=(zeroTr,2):=by rw [HR.out,if_neg (fun h=>h rfl),if_neg (by have:=HX6.out.2;omega)]
   rw [HE]
   exact ⟨0,0,0,none,0,0,rfl,zeroTr_at,(HBB.out.1.trans (HX6.out.1.below HBB.out.1.size (fun k hk=>by omega))).trans (HY.out.2.below (by omega) (fun k hk=>by omega))⟩
end Go.Proofs.YtjjkfgjnadaheaaGreatDoor
