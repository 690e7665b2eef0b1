/- GateGround: its walk and the plain law beneath it. -/
import Derived.Test.YtjjkfgjnadaheaaGreatDoorLGGate22
set_option maxHeartbeats 16000000
set_option maxRecDepth 100000
set_option linter.unusedVariables false
set_option linter.unusedSimpArgs false
namespace Go.Proofs.YtjjkfgjnadaheaaGreatDoor
open Go.RowKit Go.Chalk
def SomeB (e:Ending):Prop:=∃ b:Bool,e=.returned (.bool b)
theorem rfew10_any (s:Schl) (x:SchA) (w:World) (hs:SchIn w (·<w.heap.size) s x) (hsm:s.lessons.length<=2000000) :
  Calls Tryz.prog 15 #[.agg (x.cells s).toArray] w fun e w'=>SomeB e/\Below w.heap.size w w':=by
 have hba:Below w.heap.size w (w.alloc (.cells (x.cells s).toArray 28)):=(Below.refl _ _).alloc (Nat.le_refl _) _
 have hbx:SchBox (w.alloc (.cells (x.cells s).toArray 28)) w.heap.size s x:=by unfold SchBox;rw [heap_get,if_pos rfl]
 have HB:=Lh (aI hba hbx)
 have HS:=Lh hs
 have HSM:=Lh hsm
 obtain ⟨c0,c1,c2,c3,c4⟩:=hbx.cells
 clear hs hsm hba hbx
 simp only [SchA.cells,SlA.val] at HB c0 c1 c2 c3 c4 ⊢
 go_enter Tryz.func15,Tryz.ntmps15
 go_wp2_with fail
 clear c0 c1 c2 c3 c4
 go_loopw [8] (fun i wr=>∃ (j:Nat),j<=s.lessons.length/\i=.int .i64 j/\Below w.heap.size w wr/\Hid (SchBox wr w.heap.size s x)) (fun i _=>s.lessons.length - (intOf i).toNat)
 case atStart=>exact ⟨0,Nat.zero_le _,rfl,HB.out.1,Lh HB.out.2⟩
 case round =>
  obtain ⟨j,hj,rfl,hb,HBX⟩:=hrel
  have HB0:=Lh hb
  have hsm:=HSM.out
  by_cases hlt:j<s.lessons.length
  ·obtain ⟨y1,y2,_,_,_,hy2⟩:=HS.out.lessons.lsn j hlt
   obtain ⟨hxa,hFb⟩:=HS.out.lessons.at_ (by rw [List.length_map];omega)
   obtain ⟨e0,e1,e2⟩:=(hy2.agree (agree_of_below hb) hFb).three
   have hlt2:x.lessons.b<wr.heap.size:=Nat.lt_of_lt_of_le hFb hb.size
   simp only [SlA.val] at e1 e2
   generalize (s.lessons[j]).who.length=sl at e1
   generalize (s.lessons[j]).groups.length=sl2 at e2
   rw [hxa]
   clear hy2 hFb hxa hb
   go_wp2_with fail
   all_goals first
    | (go_ret;exact ⟨⟨_,rfl⟩,HB0.out.alloc HB0.out.size _⟩)
    | exact ⟨⟨j+1,by omega,by go_num,HB0.out.alloc HB0.out.size _,Lh (HBX.out.below ((Below.refl _ _).alloc (Nat.le_refl _) _))⟩,by simp [intOf];omega⟩
  ·have HV:Hid True:=Lh trivial
   obtain ⟨c0,c1,c2,c3,c4⟩:=HBX.out.cells
   clear hb
   go_wp2_with fail
   all_goals
    go_ret
    exact ⟨⟨_,rfl⟩,HB0.out⟩
end Go.Proofs.YtjjkfgjnadaheaaGreatDoor
namespace Go.Chalk
open Go.RowKit
def Fr (lo:Nat) (w:World) (k:Nat):Prop:=lo<=k/\k<w.heap.size
theorem FrmIn.all {lo:Nat} {w:World} {f:Frm} {x:FrmA} (h:FrmIn w (Fr lo w) f x):FrmIn w (·<w.heap.size) f x:=h.mono (fun _ hk=>hk.2)
end Go.Chalk
namespace Go.Chalk
open Go.RowKit
variable {P:Program}
end Go.Chalk
namespace Go.Proofs.YtjjkfgjnadaheaaGreatDoor
open Go.RowKit Go.Chalk
attribute [local go_sem] Oper.semAt_some
theorem wkTrueF_len (s:Schl) (l:List Plc):(wkTrueF s l).1.length<=2000000:=by
 unfold wkTrueF
 split
 ·simp
 ·rename_i h
  have h0:weekCheck s l=0:=Classical.byContradiction h
  have hs:schCheck s=0:=by
   unfold weekCheck at h0
   split at h0
   ·rename_i h1;exact absurd h0 h1
   ·rename_i h1;exact Classical.byContradiction h1
  show (trueK s l l.length).length<=_
  rw [trueK_len];have:=vars_small hs;omega
theorem own_read3 {w:World} {F:Nat->Prop} {e:TypeId} {sz:Nat} {v:Value} {r:Option Nat} {xs:List D} (h:Chalk.Own w F e sz v r xs) (hw:widths xs=xs.length*sz):DAt w (·<w.heap.size) (.sl xs) [v] :=
 h.read (fun k hk=>h.lt k hk) (fun _ hk=>h.row_lt hk) hw
theorem ggate_walk (s:Schl) (x:SchA) (l:List Plc) (y:SlA) (env:List Ev) (z:SlA) (f:Frm) (fa:FrmA) (w:World) (hI:ItoaAt) (hf:SchFit s) (hff:FrmFit f) (hg:GG w) (hs:SchIn w (·<w.heap.size) s x) (hy:SlIn w (·<w.heap.size) (l.map Plc.toD) y) (hl:l.length<=2000000)
  (hz:SlIn w (·<w.heap.size) (env.map Ev.toD) z) (hel:env.length<=1200000) (hmax:∀ e∈env,e.name.length<=4000000) (hx:FrmIn w (·<w.heap.size) f fa) :
  Calls Tryz.prog 9 #[.agg (x.cells s).toArray,.slice z.a env.length z.cap,ndV (f,fa),.agg #[.slice y.a l.length y.cap]] w fun e w'=>e=.returned (.bool true)/\Below w.heap.size w w':=by
 have HLV:=Lh (fun (W:World) (_:Below w.heap.size w W)=>live_any W)
 have HFW:=Lh (fun (W:World) (hW:Below w.heap.size w W)=>rfew10_any s x W (hs.later hW hW.size) hf.toSchSmall.lessons)
 have HSZ:=Lh (fun (W:World) (hW:Below w.heap.size w W)=>rsize_any f.size f fa W (Nat.le_refl _) hff.size (hx.later hW hW.size))
 have HTR:=Lh (fun (W:World) (hW:Below w.heap.size w W)=>gTree_any s x f fa env z W hI hf (hs.later hW hW.size) (hg.below hW) hff hel hmax (hx.later hW hW.size) (hz.later hW hW.size))
 have HWT:=Lh (fun (W:World) (hW:Below w.heap.size w W)=>wtrue_own s x l y W hI hf (hg.below hW) (hs.later hW hW.size) (hy.later hW hW.size) hl)
 have HHD:=Lh (fun (W:World) (hW:Below w.heap.size w W)=>eholds_any s x l y env z f fa W hI hf hff (hg.below hW) (hs.later hW hW.size) (hy.later hW hW.size) hl (hz.later hW hW.size) (by omega) hmax (hx.later hW hW.size))
 have HPL:=Lh (ghold_plain s l env f)
 have HGP:=Lh (fun h1 h2 h3=>ggate_plain s l env f h1 h2 h3)
 have HLA:Hid ((wkTrueF s l).2=0->1<=(wkTrueF s l).1.length):=Lh (fun h=>by
  unfold wkTrueF at h ⊢
  split at h
  ·rename_i h2;exact absurd h h2
  ·rename_i h2;rw [if_neg h2];show 1<=(trueK s l l.length).length;rw [trueK_len];omega)
 have HTL:=Lh (wkTrueF_len s l)
 obtain ⟨W0,hW0⟩:∃ W0,W0=((w.alloc (.cells (x.cells s).toArray 28)).alloc (.cells (fa.cells f).toArray 34)).alloc (.cells #[.slice y.a l.length y.cap] 50):=⟨_,rfl⟩
 have hb0:Below w.heap.size w W0:=by rw [hW0];exact (((Below.refl _ _).alloc (Nat.le_refl _) _).alloc (by simp) _).alloc (by simp;omega) _
 have hs0:SchBox W0 w.heap.size s x:=by rw [hW0];unfold SchBox;rw [heap_get,if_neg (by first | (simp;done) | (simp;omega)),heap_get,if_neg (by first | (simp;done) | (simp;omega)),heap_get,if_pos rfl]
 have hf0:FrmBox W0 (w.heap.size+1) f fa:=by rw [hW0];unfold FrmBox;rw [heap_get,if_neg (by first | (simp;done) | (simp;omega)),heap_get,if_pos (by simp)]
 have hk0:W0.heap[w.heap.size+1+1]?=some (.cells #[.slice y.a l.length y.cap] 50 (0,0)):=by rw [hW0,heap_get,if_pos (by simp)]
 have HE:Hid (∀ W,Below W0.heap.size W0 W->Below w.heap.size w W/\(W.cell? ⟨w.heap.size,0,none⟩=some (.slice x.slots.a s.slots.length x.slots.cap)/\W.cell? ⟨w.heap.size,1,none⟩=some (.slice x.rooms.a s.rooms.length x.rooms.cap)/\W.cell? ⟨w.heap.size,2,none⟩=some (.slice x.people.a s.people.length x.people.cap)/\W.cell? ⟨w.heap.size,3,none⟩=some (.slice x.groups.a s.groups.length x.groups.cap)/\W.cell? ⟨w.heap.size,4,none⟩=some (.slice x.lessons.a s.lessons.length x.lessons.cap)) /\
   (W.cell? ⟨w.heap.size+1,0,none⟩=some (.int .i64 f.kind)/\W.cell? ⟨w.heap.size+1,1,none⟩=some (.string ⟨f.name.toArray⟩)/\W.cell? ⟨w.heap.size+1,2,none⟩=some (.int .i64 f.n)/\W.cell? ⟨w.heap.size+1,3,none⟩=some (.slice fa.t.a f.terms.length fa.t.cap)/\W.cell? ⟨w.heap.size+1,4,none⟩=some (.slice fa.b.a f.binds.length fa.b.cap)/\W.cell? ⟨w.heap.size+1,5,none⟩=some (.slice fa.l.a f.l.length fa.l.cap)) /\
   W.cell? ⟨w.heap.size+1+1,0,none⟩=some (.slice y.a l.length y.cap)):=Lh (fun W hW =>
  ⟨hb0.trans (hW.mono hb0.size),(hs0.below hW).cells,(hf0.below hW).cells,cH ((hW.block _ (gS hk0).1).trans hk0) rfl⟩)
 have HB0:=Lh hb0
 have HW0:=Lh hW0
 clear hb0 hs0 hf0 hk0 hW0 hI hf hff hg hs hy hl hz hel hmax hx
 have HG2:Hid ((gTreeF s env f).2=0->(wkTrueF s l).2=0->(gTreeF s env f).1.size<=400->∀ hv hc,evHolds s l env f=(hv,hc)->hc=0/\1<=(wkTrueF s l).1.length/\(wkTrueF s l).1.length<=6000/\mayB (gTreeF s env f).1 (((wkTrueF s l).1.length:Int) - 1)=true/\∃ (lit:Int) (ls:List Lin) (af:Int) (nw:List Bool),gatesF (gTreeF s env f).1 (wkTrueF s l).1.length=(lit,ls,af,0)/\(litF (gTreeF s env f).1 (wkTrueF s l).1.length).1=lit/\newsV (gTreeF s env f).1 (wkTrueF s l).1=nw /\
   (∀ x∈ls,LinOk x 65536)/\linsV ls ((wkTrueF s l).1++nw)=true/\truthF lit ((wkTrueF s l).1++nw)=hv /\ -1000000<=lit/\lit<=1000000/\ls.length<=2000/\nw.length<=400):=Lh (fun h1 h2 h3 hv hc he=>by
  have g:=HGP.out h1 h2 h3
  have g1:=g.holds
  have g2:=g.truth
  rw [he] at g1 g2
  exact ⟨g1,g.pos,g.small,g.may,_,_,_,_,g.gates,rfl,rfl,g.ok,g.lins,g2,g.lit.1,g.lit.2,g.len,g.news⟩)
 clear HGP
 generalize gTreeF s env f=T at HTR HPL HG2
 generalize wkTrueF s l=A at HWT HPL HTL HG2 HLA
 generalize hH:evHolds s l env f=H at HHD HPL HG2
 obtain ⟨t,ec⟩:=T
 obtain ⟨a,gc⟩:=A
 obtain ⟨hv,hc⟩:=H
 have HG:=Lh (fun h1 h2 h3=>HG2.out h1 h2 h3 hv hc rfl)
 clear hH HG2
 simp only at HPL HTL HHD HG HLA
 have HSP:Hid (ec=0->t.size<=65536):=Lh (fun h=>(HPL.out.2 h).1)
 clear HPL
 simp only [ndV,SchA.cells,FrmA.cells,SlA.val] at HFW HSZ HTR HWT HHD HW0 HE ⊢
 go_enter Tryz.func9,Tryz.ntmps9
 go_wp2_with fail
 rw [<- HW0.out]
 refine (HLV.out _ HB0.out).mono ?_
 rintro e w1 ⟨rfl,hb1⟩
 have H1:=Lh hb1
 clear hb1
 obtain ⟨_,⟨c0,c1,c2,c3,c4⟩,⟨f0,f1,f2,f3,f4,f5⟩,d0⟩:=HE.out w1 H1.out
 go_wp2_with fail
 refine (HFW.out _ (HE.out _ H1.out).1).mono ?_
 rintro e w2 ⟨⟨b2,rfl⟩,hb2⟩
 have H2:=Lh (H1.out.trans (hb2.mono H1.out.size))
 clear hb2 c0 c1 c2 c3 c4 f0 f1 f2 f3 f4 f5 d0
 cases b2
 ·go_wp2_with fail
  go_ret
  exact ⟨rfl,(HE.out _ H2.out).1⟩
 obtain ⟨_,⟨c0,c1,c2,c3,c4⟩,⟨f0,f1,f2,f3,f4,f5⟩,d0⟩:=HE.out w2 H2.out
 by_cases p1:(6:Int)<(env.length:Int)
 ·go_wp2_with fail
  go_ret
  exact ⟨rfl,(HE.out _ H2.out).1⟩
 have p1':decide ((6:Int)<(env.length:Int))=false:=decide_eq_false p1
 clear p1
 go_wp2_with fail
 refine (HSZ.out _ (HE.out _ H2.out).1).mono ?_
 rintro e w3 ⟨n3,rfl,hb3⟩
 have H3:=Lh (H2.out.trans (hb3.mono H2.out.size))
 clear hb3 c0 c1 c2 c3 c4 f0 f1 f2 f3 f4 f5 d0
 by_cases p2:(20:Int)<n3
 ·go_wp2_with fail
  go_ret
  exact ⟨rfl,(HE.out _ H3.out).1⟩
 have p2':decide ((20:Int)<n3)=false:=decide_eq_false p2
 clear p2
 obtain ⟨_,⟨c0,c1,c2,c3,c4⟩,⟨f0,f1,f2,f3,f4,f5⟩,d0⟩:=HE.out w3 H3.out
 by_cases p3:(10:Int)<(l.length:Int)
 ·go_wp2_with fail
  go_ret
  exact ⟨rfl,(HE.out _ H3.out).1⟩
 have p3':decide ((10:Int)<(l.length:Int))=false:=decide_eq_false p3
 clear p3
 go_wp2_with fail
 refine (HTR.out _ (HE.out _ H3.out).1).mono ?_
 rintro e w4 ⟨k0,k1,k2,ta,tn,tc,rfl,hd,hb4⟩
 have H4:=Lh (aI (DAt.mono (fun _ k=>k.2) _ _ hd:DAt w4 (fun k=>k<w4.heap.size) t.toD _) (H3.out.trans (hb4.mono H3.out.size)))
 clear hd hb4 c0 c1 c2 c3 c4 f0 f1 f2 f3 f4 f5 d0 p1' p2' p3'
 simp only
 go_upto_region 6 with fail
 obtain ⟨w5,hW5⟩:∃ w5,w5=w4.alloc (.cells #[.int .i64 k0,.int .i64 k1,.int .i64 k2,.slice ta tn tc] 39):=⟨_,rfl⟩
 rw [<- hW5]
 have H5:Hid (Below W0.heap.size W0 w5/\∀ W,Below w5.heap.size w5 W->W.heap[w4.heap.size]?=some (.cells #[.int .i64 k0,.int .i64 k1,.int .i64 k2,.slice ta tn tc] 39 (0,0))/\DAt W (·<w5.heap.size) t.toD [.int .i64 k0,.int .i64 k1,.int .i64 k2,.slice ta tn tc]):=Lh (by
  have hba:Below w4.heap.size w4 w5:=by rw [hW5];exact (Below.refl _ _).alloc (Nat.le_refl _) _
  refine ⟨H4.out.2.trans (hba.mono H4.out.2.size),fun W hb=>?_⟩
  have h2:Below w4.heap.size w4 W:=hba.trans (hb.mono hba.size)
  refine ⟨(hb.block _ (by rw [hW5];simp)).trans (by rw [hW5,heap_get,if_pos rfl]),DAt.mono (fun k (hk:k<w4.heap.size)=>by have:=hba.size;omega) _ _ (DAt.agree (agree_of_below h2) _ _ H4.out.1)⟩)
 clear hW5
 obtain ⟨_,⟨c0,c1,c2,c3,c4⟩,_,d0⟩:=HE.out w5 H5.out.1
 go_wp2_with fail
 refine (HWT.out _ (HE.out _ H5.out.1).1).mono ?_
 rintro e w6 ⟨u,rfl,hu,hb6,q,hown,hq⟩
 have H6:=Lh (aI hown (aI hq (aI hb6 (H5.out.1.trans (hb6.mono H5.out.1.size)))))
 clear hu hb6 hown hq c0 c1 c2 c3 c4 d0
 simp only
 by_cases hec:ec=0
 ·subst hec
  by_cases hgc:gc=0
  ·subst hgc
   have hla:¬ (a.length=0):=by have:=HLA.out (by first | rfl | trivial);omega
   obtain ⟨q1,d1⟩:=H5.out.2 w6 H6.out.2.2.1
   have l1:=(gS q1).1
   have m0:w6.cell? ⟨w4.heap.size,0,none⟩=some (.int .i64 k0):=cH q1 rfl
   have m1:w6.cell? ⟨w4.heap.size,1,none⟩=some (.int .i64 k1):=cH q1 rfl
   have m2:w6.cell? ⟨w4.heap.size,2,none⟩=some (.int .i64 k2):=cH q1 rfl
   have m3:w6.cell? ⟨w4.heap.size,3,none⟩=some (.slice ta tn tc):=cH q1 rfl
   have HS:=Lh (size_anyX t.size t _ w6 (Nat.le_refl _) (by have:=HSP.out (by first | rfl | trivial);omega) ⟨_,_,_,_,rfl,DAt.mono (fun k (hk:k<w5.heap.size)=>by have:=H6.out.2.2.1.size;omega) _ _ d1⟩)
   have z0:((a.length:Int)==0)=false:=by simpa using hla
   clear q1 d1 hla
   go_wp2_with fail
   refine HS.out.mono ?_
   rintro e w7 ⟨rfl,hb7⟩
   have H7:=Lh (aI (H6.out.2.2.1.trans (hb7.mono H6.out.2.2.1.size)) (aI hb7 (H6.out.2.2.2.trans (hb7.mono H6.out.2.2.2.size))))
   clear hb7 m0 m1 m2 m3 l1
   by_cases p4:(400:Int)<(t.size:Int)
   ·go_wp2_with fail
    go_ret
    exact ⟨rfl,(HE.out _ H7.out.2.2).1⟩
   have p4':decide ((400:Int)<(t.size:Int))=false:=decide_eq_false p4
   obtain ⟨rfl,hal1,hal2,hmay,lit,ls,af,nw,hgt,hlit,hnw,hok,hlin,htr,hl1,hl2,hln,hnn⟩:=HG.out (by first | rfl | trivial) (by first | rfl | trivial) (by omega)
   have HP:=Lh (aI hal1 (aI hal2 (aI hmay (aI hlit (aI hnw (aI hok (aI hlin (aI htr (aI hl1 (aI hl2 (aI hln hnn)))))))))))
   have HT4:Hid (t.size<=400):=Lh (by omega)
   obtain ⟨q1,d1⟩:=H5.out.2 w7 H7.out.1
   have l1:=(gS q1).1
   have m0:w7.cell? ⟨w4.heap.size,0,none⟩=some (.int .i64 k0):=cH q1 rfl
   have m1:w7.cell? ⟨w4.heap.size,1,none⟩=some (.int .i64 k1):=cH q1 rfl
   have m2:w7.cell? ⟨w4.heap.size,2,none⟩=some (.int .i64 k2):=cH q1 rfl
   have m3:w7.cell? ⟨w4.heap.size,3,none⟩=some (.slice ta tn tc):=cH q1 rfl
   have hga:=gates_any t _ (a.length:Int) w7 (by omega) ⟨_,_,_,_,rfl,DAt.mono (fun k (hk:k<w5.heap.size)=>by have:=H7.out.1.size;omega) _ _ d1⟩
   rw [hgt] at hga
   have HGA:=Lh hga
   clear q1 d1 p4 hga hgt hal1 hal2 hmay hlit hnw hok hlin htr hl1 hl2 hln hnn
   go_wp2_with fail
   refine HGA.out.mono ?_
   rintro e w8 ⟨v8,rfl,hN8,hb8⟩
   have H8:=Lh (aI (hN8:DAt w8 (fun k=>w7.heap.size<=k/\k<w8.heap.size) (.sl (ls.map Lin.toD)) [v8]) (aI (H7.out.1.trans (hb8.mono H7.out.1.size)) (aI (H7.out.2.2.trans (hb8.mono H7.out.2.2.size)) hb8.size)))
   have HO8:=Lh ((H6.out.1.below H7.out.2.1).below hb8)
   clear hN8 hb8 m0 m1 m2 m3 l1 p4'
   simp only
   obtain ⟨_,⟨c0,c1,c2,c3,c4⟩,⟨f0,f1,f2,f3,f4,f5⟩,d0⟩:=HE.out w8 H8.out.2.2.1
   go_wp2_with fail
   refine (HHD.out _ (HE.out _ H8.out.2.2.1).1).mono ?_
   rintro e w9 ⟨rfl,hb9⟩
   have H9:=Lh (aI hb9 (aI (H8.out.2.1.trans (hb9.mono H8.out.2.1.size)) (H8.out.2.2.1.trans (hb9.mono H8.out.2.2.1.size))))
   clear hb9 c0 c1 c2 c3 c4 f0 f1 f2 f3 f4 f5 d0
   simp only
   have HV9:Hid (DAt w9 (fun k=>w7.heap.size<=k/\k<w9.heap.size) (.sl (ls.map Lin.toD)) [v8]):=Lh (DAt.mono (fun k hk=>⟨hk.1,by have:=hk.2;have:=H9.out.1.size;omega⟩) _ _ (DAt.agree (fun k hk=>H9.out.1.block k hk.2) _ _ H8.out.1))
   obtain ⟨WA,hWA⟩:∃ WA,WA=w9.alloc (.cells #[.slice u.a a.length u.cap] 72):=⟨_,rfl⟩
   have hbA:Below w9.heap.size w9 WA:=by rw [hWA];exact (Below.refl _ _).alloc (Nat.le_refl _) _
   have hzA:WA.heap.size=w9.heap.size+1:=by rw [hWA];simp
   obtain ⟨q1,d1⟩:=H5.out.2 WA (H9.out.2.1.trans (hbA.mono H9.out.2.1.size))
   have l1:=(gS q1).1
   have m0:WA.cell? ⟨w4.heap.size,0,none⟩=some (.int .i64 k0):=cH q1 rfl
   have m1:WA.cell? ⟨w4.heap.size,1,none⟩=some (.int .i64 k1):=cH q1 rfl
   have m2:WA.cell? ⟨w4.heap.size,2,none⟩=some (.int .i64 k2):=cH q1 rfl
   have m3:WA.cell? ⟨w4.heap.size,3,none⟩=some (.slice ta tn tc):=cH q1 rfl
   have hq9:∀ k,q=some k->w5.heap.size<=k/\k<w7.heap.size:=fun k hk=>⟨H6.out.2.1 k hk,by have:=H6.out.1.row_lt hk;have:=H7.out.2.1.size;omega⟩
   have h79:w7.heap.size<=w9.heap.size:=by have:=H8.out.2.2.2;have:=H9.out.1.size;omega
   have hrd:RdAt WA w9.heap.size 72 4 (.slice u.a a.length u.cap) q a:=⟨by rw [hWA];exact heap_alloc_new _ _,by rw [hWA];exact (HO8.out.below H9.out.1).alloc _,fun h=>by have:=(hq9 _ h).2;omega⟩
   have hre:=reader_any t.size t _ ((a.length:Int) - 1) a _ q WA w5.heap.size w9.heap.size (Nat.le_refl _) HP.out.2.2.1 (by omega) HP.out.1 (by have:=HP.out.2.1;have:=HT4.out;omega) ⟨_,_,_,_,rfl,d1⟩ (by have:=H9.out.2.1.size;omega) (H9.out.2.1.size) (fun k hk=>(hq9 k hk).1) hrd
   rw [HP.out.2.2.2.1,HP.out.2.2.2.2.1] at hre
   have HRE:=Lh hre
   have HBA:=Lh (aI hbA (aI hzA (aI hq9 h79)))
   have HWA:=Lh hWA
   have e1:(lit==lit)=true:=by simp
   have e2:(hv==hv)=true:=by simp
   clear q1 d1 hbA hzA hq9 h79 hrd hre hWA
   go_upto_region 12 with fail
   rw [<- HWA.out]
   go_wp2_with fail
   refine HRE.out.mono ?_
   rintro e w10 ⟨rfl,av,q',hrd,hq',hm'⟩
   obtain ⟨ra,rcap,hav⟩:=hrd.own.form
   subst hav
   have r0:w10.cell? ⟨w9.heap.size,0,none⟩=some (.slice ra (dbools (a++nw)).length rcap):=cH hrd.box rfl
   have hl10:=hrd.lt
   have hx:=own_read3 hrd.own (by rw [dbools_widths];simp)
   have hd:DAt w10 (·<w10.heap.size) (.sl (ls.map Lin.toD)) [v8]:=DAt.mono (fun k hk=>by have:=hk.2;have:=HBA.out.2.1;have:=hm'.size;omega) _ _ (DAt.agree (fun k hk=>(hm'.block k (by have:=hk.2;have:=HBA.out.2.1;omega) (fun h=>by
    rcases h with h | h
    ·have:=hk.2;omega
    ·have:=(HBA.out.2.2.1 k h).2;have:=hk.1;omega)).trans (HBA.out.1.block k hk.2)) _ _ HV9.out)
   have hbF:Below W0.heap.size W0 w10:=(H9.out.2.2.trans (HBA.out.1.mono H9.out.2.2.size)).trans (hm'.below (by have:=H9.out.2.2.size;have:=HBA.out.2.1;omega) (fun k hk=>by
    rcases hk with h | h
    ·have:=H9.out.2.2.size;omega
    ·have:=(HBA.out.2.2.1 k h).1;have:=H5.out.1.size;omega))
   have hhl:=holds_anyX ls v8 (a++nw) _ w10 HP.out.2.2.2.2.2.1 (by have:=HP.out.2.2.2.2.2.2.2.2.2.2.1;omega) hd hx
   rw [HP.out.2.2.2.2.2.2.1] at hhl
   have HHL:=Lh hhl
   have HX:=Lh (aI hx hbF)
   have HR0:=Lh hrd.box
   clear hhl hx hd hbF hrd hq' hm' m0 m1 m2 m3 l1
   generalize hDL:(dbools (a++nw)).length=dl at *
   go_wp2_with fail
   refine HHL.out.mono ?_
   rintro e w11 ⟨rfl,hb11⟩
   have r1:=(hb11.cell (p:=⟨w9.heap.size,0,none⟩) hl10).trans r0
   have hl11:w9.heap.size<w11.heap.size:=by have:=hb11.size;omega
   have htr:=truth_any lit (a++nw) _ w11 (by have:=HP.out.2.2.2.2.2.2.2.2;omega) (HX.out.1.below hb11)
   rw [HP.out.2.2.2.2.2.2.2.1] at htr
   have HTT:=Lh htr
   have HBF:=Lh (HX.out.2.trans (hb11.mono HX.out.2.size))
   clear htr hb11 r0 hl10
   go_wp2_with fail
   refine HTT.out.mono ?_
   rintro e w12 ⟨rfl,rfl⟩
   go_wp2_with fail
   go_ret
   exact ⟨rfl,(HE.out _ HBF.out).1⟩
  ·have z1:(gc != 0)=true:=by simpa using hgc
   clear hgc
   go_wp2_with fail
   go_ret
   exact ⟨rfl,(HE.out _ H6.out.2.2.2).1⟩
 ·have z1:(ec != 0)=true:=by simpa using hec
  clear hec
  go_wp2_with fail
  go_ret
  exact ⟨rfl,(HE.out _ H6.out.2.2.2).1⟩
end Go.Proofs.YtjjkfgjnadaheaaGreatDoor
