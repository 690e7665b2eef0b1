/- Joined texts: GLive. -/
import Derived.Test.YtjjkfgjnadaheaaGreatDoorB36
set_option maxHeartbeats 8000000
set_option maxRecDepth 100000
set_option linter.unusedVariables false
set_option linter.unusedSimpArgs false
/- The law's live. -/
namespace Go.Proofs.YtjjkfgjnadaheaaGreatDoor
open Go.RowKit Go.Chalk
def TreeE (w:World) (t:Tr) (e:Ending) (w':World):Prop:=∃ k0 k1 k2 a n cap,e=.returned (.tuple #[.agg #[.int .i64 k0,.int .i64 k1,.int .i64 k2,.slice a n cap],.int .i64 0])/\DAt w' (·<w'.heap.size) t.toD [.int .i64 k0,.int .i64 k1,.int .i64 k2,.slice a n cap]/\Below w.heap.size w w'
theorem gr_tree (kind n:Int) (t:Tr) (x:SchA) (fa:FrmA) (z:SlA) (w:World) (hI:ItoaAt) (hg:GG w) (hff:FrmFit (grA kind n)) (ht:gTreeF grS grE (grA kind n)=(t,0)) (hs:SchIn w (·<w.heap.size) grS x) (hx:FrmIn w (·<w.heap.size) (grA kind n) fa) (hz:SlIn w (·<w.heap.size) (grE.map Ev.toD) z) :
  Calls Tryz.prog 12 #[.agg (x.cells grS).toArray,.slice z.a 1 z.cap,ndV (grA kind n,fa)] w (TreeE w t):=by
 have h:=gTree_any grS x (grA kind n) fa grE z w hI grS_fit hs hg hff (by decide) (by intro e he;simp only [grE,List.mem_singleton] at he;subst he;decide) hx hz
 rw [ht] at h
 refine h.mono ?_
 rintro e w' ⟨k0,k1,k2,a,m,cap,he,hd,hb⟩
 exact ⟨k0,k1,k2,a,m,cap,he,DAt.mono (fun _ k=>k.2) _ _ hd,hb⟩

theorem live10_any (w:World) (hI:ItoaAt) (hg:GG w) :
  Calls Tryz.prog 10 #[] w fun e w'=>e=.returned (.bool true)/\Below w.heap.size w w':=by
 obtain ⟨W1,hW1⟩:∃ W1,W1=w.alloc (.cells #[.string ⟨#[108]⟩,.int .i64 1,.int .i64 0] 76):=⟨_,rfl⟩
 have hb1:Below w.heap.size w W1:=by rw [hW1];exact (Below.refl _ _).alloc (Nat.le_refl _) _
 have z1:W1.heap.size=w.heap.size+1:=by rw [hW1];simp
 have s1:=SlIn.lit' (lo:=0) (w:=w) (e:=76) (n:=1) (Nat.zero_le _) gr_env rfl (by decide)
 rw [<- hW1] at s1
 obtain ⟨W2,hW2⟩:∃ W2,W2=W1.alloc (.cells #[.int .i64 2,.int .i64 1,.int .i64 0,.slice none 0 0,.int .i64 2,.int .i64 2,.int .i64 0,.slice none 0 0] 39):=⟨_,rfl⟩
 have c2:Below W1.heap.size W1 W2:=by rw [hW2];exact (Below.refl _ _).alloc (Nat.le_refl _) _
 have hb2:Below w.heap.size w W2:=by rw [hW2];exact hb1.alloc (by omega) _
 have s2:=SlIn.lit' (lo:=0) (w:=W1) (e:=39) (n:=2) (Nat.zero_le _) gr_vars rfl (by decide)
 rw [<- hW2,z1] at s2
 have HB2:=Lh hb2
 have HE:=Lh (fun (W:World) (hW:Below W2.heap.size W2 W)=>((s1.laterB c2).laterB hW).mono (fun _ k=>k.2))
 have HV:=Lh (fun (W:World) (hW:Below W2.heap.size W2 W)=>(s2.laterB hW).mono (fun _ k=>k.2))
 have HG:=Lh (fun (W:World) (hW:Below W2.heap.size W2 W)=>hg.below (hb2.trans (hW.mono hb2.size)))
 rw [hW1] at hW2
 have HW:=Lh hW2
 have HT:=Lh (fun (W:World)=>two10_any W 0 (Nat.zero_le _))
 have HI:=Lh hI
 clear hb1 z1 s1 c2 hb2 s2 hW2 hg hI hW1
 go_enter Tryz.func10,Tryz.ntmps10
 go_wp2_with fail
 rw [<- HW.out]
 refine (HT.out W2).mono ?_
 rintro e a1 ⟨x1,rfl,hx,hb⟩
 have A1:=Lh (aI hx (aI (Below.trans (Below.refl W2.heap.size W2) (hb.mono (Below.refl W2.heap.size W2).size)) hb))
 clear hx hb
 simp only [SchA.cells,SlA.val]
 go_wp2_with fail
 refine (at10_any 15 0 a1 0 (Nat.zero_le _) (by unfold I64;omega) (by unfold I64;omega)).mono ?_
 rintro e b1 ⟨u1,rfl,hu,hb⟩
 have B1:=Lh (aI hu (aI hb (Below.trans A1.out.2.1 (hb.mono A1.out.2.1.size))))
 clear hu hb
 have C1:=Lh (gr_tree 15 0 (.mk 5 0 0 grV) x1 u1 ⟨some ⟨w.heap.size,0,none⟩,w.heap.size,0,1⟩ b1 HI.out (HG.out _ B1.out.2.2) grA_fit.1 gr_some ((A1.out.1.mono (fun _ k=>k.2)).later B1.out.2.1 B1.out.2.1.size) (B1.out.1.mono (fun _ k=>k.2)) (HE.out _ B1.out.2.2))
 have e1:ndV (grA 15 0,u1)=.agg #[.int .i64 15,.string ⟨#[]⟩,.int .i64 0,.slice u1.t.a 0 u1.t.cap,.slice u1.b.a 1 u1.b.cap,.slice u1.l.a 1 u1.l.cap]:=rfl
 rw [e1] at C1 ⊢
 clear e1
 go_wp2_with fail
 refine C1.out.mono ?_
 rintro e c1 ⟨k10,k11,k12,ta1,tn1,tc1,rfl,hd,hb⟩
 have D1:=Lh (aI hd (aI (Below.trans B1.out.2.2 (hb.mono B1.out.2.2.size)) hb))
 clear hd hb C1
 go_wp2_with fail
 obtain ⟨W3,hW⟩:∃ W',W'=c1.alloc (.cells #[.int .i64 k10,.int .i64 k11,.int .i64 k12,.slice ta1 tn1 tc1] 39):=⟨_,rfl⟩
 rw [<- hW]
 have E1:Hid (Below W2.heap.size W2 W3/\(∀ W,Below W3.heap.size W3 W->W.heap[c1.heap.size]?=some (.cells #[.int .i64 k10,.int .i64 k11,.int .i64 k12,.slice ta1 tn1 tc1] 39 (0,0))/\DAt W (·<W.heap.size) (Tr.toD (.mk 5 0 0 grV)) [.int .i64 k10,.int .i64 k11,.int .i64 k12,.slice ta1 tn1 tc1])/\Below W2.heap.size W2 W3):=Lh (by
  have hba:Below c1.heap.size c1 W3:=by rw [hW];exact (Below.refl _ _).alloc (Nat.le_refl _) _
  have s1:=A1.out.2.2
  have s2:=s1.trans (B1.out.2.1.mono s1.size)
  have s3:=s2.trans (D1.out.2.2.mono s2.size)
  refine ⟨D1.out.2.1.trans (hba.mono D1.out.2.1.size),fun W hb=>?_,s3.trans (hba.mono s3.size)⟩
  have h2:Below c1.heap.size c1 W:=hba.trans (hb.mono hba.size)
  refine ⟨(hb.block _ (by rw [hW];simp)).trans (by rw [hW,heap_get,if_pos rfl]),DAt.mono (fun k (hk:k<c1.heap.size)=>by have:=h2.size;omega) _ _ (DAt.agree (agree_of_below h2) _ _ D1.out.1)⟩)
 clear hW
 refine (HT.out W3).mono ?_
 rintro e a2 ⟨x2,rfl,hx,hb⟩
 have A2:=Lh (aI hx (aI (Below.trans E1.out.1 (hb.mono E1.out.1.size)) hb))
 clear hx hb
 simp only [SchA.cells,SlA.val]
 go_wp2_with fail
 refine (at10_any 14 0 a2 0 (Nat.zero_le _) (by unfold I64;omega) (by unfold I64;omega)).mono ?_
 rintro e b2 ⟨u2,rfl,hu,hb⟩
 have B2:=Lh (aI hu (aI hb (Below.trans A2.out.2.1 (hb.mono A2.out.2.1.size))))
 clear hu hb
 have C2:=Lh (gr_tree 14 0 (.mk 4 0 0 grV) x2 u2 ⟨some ⟨w.heap.size,0,none⟩,w.heap.size,0,1⟩ b2 HI.out (HG.out _ B2.out.2.2) grA_fit.2.1 gr_all ((A2.out.1.mono (fun _ k=>k.2)).later B2.out.2.1 B2.out.2.1.size) (B2.out.1.mono (fun _ k=>k.2)) (HE.out _ B2.out.2.2))
 have e1:ndV (grA 14 0,u2)=.agg #[.int .i64 14,.string ⟨#[]⟩,.int .i64 0,.slice u2.t.a 0 u2.t.cap,.slice u2.b.a 1 u2.b.cap,.slice u2.l.a 1 u2.l.cap]:=rfl
 rw [e1] at C2 ⊢
 clear e1
 go_wp2_with fail
 refine C2.out.mono ?_
 rintro e c2 ⟨k20,k21,k22,ta2,tn2,tc2,rfl,hd,hb⟩
 have D2:=Lh (aI hd (aI (Below.trans B2.out.2.2 (hb.mono B2.out.2.2.size)) hb))
 clear hd hb C2
 go_wp2_with fail
 obtain ⟨W4,hW⟩:∃ W',W'=c2.alloc (.cells #[.int .i64 k20,.int .i64 k21,.int .i64 k22,.slice ta2 tn2 tc2] 39):=⟨_,rfl⟩
 rw [<- hW]
 have E2:Hid (Below W2.heap.size W2 W4/\(∀ W,Below W4.heap.size W4 W->W.heap[c2.heap.size]?=some (.cells #[.int .i64 k20,.int .i64 k21,.int .i64 k22,.slice ta2 tn2 tc2] 39 (0,0))/\DAt W (·<W.heap.size) (Tr.toD (.mk 4 0 0 grV)) [.int .i64 k20,.int .i64 k21,.int .i64 k22,.slice ta2 tn2 tc2])/\Below W3.heap.size W3 W4):=Lh (by
  have hba:Below c2.heap.size c2 W4:=by rw [hW];exact (Below.refl _ _).alloc (Nat.le_refl _) _
  have s1:=A2.out.2.2
  have s2:=s1.trans (B2.out.2.1.mono s1.size)
  have s3:=s2.trans (D2.out.2.2.mono s2.size)
  refine ⟨D2.out.2.1.trans (hba.mono D2.out.2.1.size),fun W hb=>?_,s3.trans (hba.mono s3.size)⟩
  have h2:Below c2.heap.size c2 W:=hba.trans (hb.mono hba.size)
  refine ⟨(hb.block _ (by rw [hW];simp)).trans (by rw [hW,heap_get,if_pos rfl]),DAt.mono (fun k (hk:k<c2.heap.size)=>by have:=h2.size;omega) _ _ (DAt.agree (agree_of_below h2) _ _ D2.out.1)⟩)
 clear hW
 refine (HT.out W4).mono ?_
 rintro e a3 ⟨x3,rfl,hx,hb⟩
 have A3:=Lh (aI hx (aI (Below.trans E2.out.1 (hb.mono E2.out.1.size)) hb))
 clear hx hb
 simp only [SchA.cells,SlA.val]
 go_wp2_with fail
 refine (at10_any 17 1 a3 0 (Nat.zero_le _) (by unfold I64;omega) (by unfold I64;omega)).mono ?_
 rintro e b3 ⟨u3,rfl,hu,hb⟩
 have B3:=Lh (aI hu (aI hb (Below.trans A3.out.2.1 (hb.mono A3.out.2.1.size))))
 clear hu hb
 have C3:=Lh (gr_tree 17 1 (.mk 3 0 0 [.mk 6 0 2 grV]) x3 u3 ⟨some ⟨w.heap.size,0,none⟩,w.heap.size,0,1⟩ b3 HI.out (HG.out _ B3.out.2.2) grA_fit.2.2 gr_most ((A3.out.1.mono (fun _ k=>k.2)).later B3.out.2.1 B3.out.2.1.size) (B3.out.1.mono (fun _ k=>k.2)) (HE.out _ B3.out.2.2))
 have e1:ndV (grA 17 1,u3)=.agg #[.int .i64 17,.string ⟨#[]⟩,.int .i64 1,.slice u3.t.a 0 u3.t.cap,.slice u3.b.a 1 u3.b.cap,.slice u3.l.a 1 u3.l.cap]:=rfl
 rw [e1] at C3 ⊢
 clear e1
 go_wp2_with fail
 refine C3.out.mono ?_
 rintro e c3 ⟨k30,k31,k32,ta3,tn3,tc3,rfl,hd,hb⟩
 have D3:=Lh (aI hd (aI (Below.trans B3.out.2.2 (hb.mono B3.out.2.2.size)) hb))
 clear hd hb C3
 go_wp2_with fail
 obtain ⟨W5,hW⟩:∃ W',W'=c3.alloc (.cells #[.int .i64 k30,.int .i64 k31,.int .i64 k32,.slice ta3 tn3 tc3] 39):=⟨_,rfl⟩
 rw [<- hW]
 have E3:Hid (Below W2.heap.size W2 W5/\(∀ W,Below W5.heap.size W5 W->W.heap[c3.heap.size]?=some (.cells #[.int .i64 k30,.int .i64 k31,.int .i64 k32,.slice ta3 tn3 tc3] 39 (0,0))/\DAt W (·<W.heap.size) (Tr.toD (.mk 3 0 0 [.mk 6 0 2 grV])) [.int .i64 k30,.int .i64 k31,.int .i64 k32,.slice ta3 tn3 tc3])/\Below W4.heap.size W4 W5):=Lh (by
  have hba:Below c3.heap.size c3 W5:=by rw [hW];exact (Below.refl _ _).alloc (Nat.le_refl _) _
  have s1:=A3.out.2.2
  have s2:=s1.trans (B3.out.2.1.mono s1.size)
  have s3:=s2.trans (D3.out.2.2.mono s2.size)
  refine ⟨D3.out.2.1.trans (hba.mono D3.out.2.1.size),fun W hb=>?_,s3.trans (hba.mono s3.size)⟩
  have h2:Below c3.heap.size c3 W:=hba.trans (hb.mono hba.size)
  refine ⟨(hb.block _ (by rw [hW];simp)).trans (by rw [hW,heap_get,if_pos rfl]),DAt.mono (fun k (hk:k<c3.heap.size)=>by have:=h2.size;omega) _ _ (DAt.agree (agree_of_below h2) _ _ D3.out.1)⟩)
 clear hW
 refine (HT.out W5).mono ?_
 rintro e a4 ⟨x4,rfl,hx,hb⟩
 have A4:=Lh (aI hx (aI hb (Below.trans E3.out.1 (hb.mono E3.out.1.size))))
 clear hx hb
 have F4:=Lh (gFrame_any grS x4 a4 HI.out grS_fit (HG.out _ A4.out.2.2) (A4.out.1.mono (fun _ k=>k.2)))
 simp only [SchA.cells,SlA.val] at F4 ⊢
 go_wp2_with fail
 refine F4.out.mono ?_
 rintro e c4 ⟨u4,rfl,_,hb⟩
 have HF:Hid (∀ W,Below c4.heap.size c4 W->Below w.heap.size w W/\(W.heap[c1.heap.size]?=some (.cells #[.int .i64 k10,.int .i64 k11,.int .i64 k12,.slice ta1 tn1 tc1] 39 (0,0))/\DAt W (·<W.heap.size) (Tr.toD (.mk 5 0 0 grV)) [.int .i64 k10,.int .i64 k11,.int .i64 k12,.slice ta1 tn1 tc1]) /\
   (W.heap[c2.heap.size]?=some (.cells #[.int .i64 k20,.int .i64 k21,.int .i64 k22,.slice ta2 tn2 tc2] 39 (0,0))/\DAt W (·<W.heap.size) (Tr.toD (.mk 4 0 0 grV)) [.int .i64 k20,.int .i64 k21,.int .i64 k22,.slice ta2 tn2 tc2]) /\
   (W.heap[c3.heap.size]?=some (.cells #[.int .i64 k30,.int .i64 k31,.int .i64 k32,.slice ta3 tn3 tc3] 39 (0,0))/\DAt W (·<W.heap.size) (Tr.toD (.mk 3 0 0 [.mk 6 0 2 grV])) [.int .i64 k30,.int .i64 k31,.int .i64 k32,.slice ta3 tn3 tc3]) /\
   SlIn W (·<W.heap.size) (grV.map Tr.toD) ⟨some ⟨w.heap.size+1,0,none⟩,w.heap.size+1,0,2⟩):=Lh (fun W hW=>by
  have y5:=A4.out.2.1.trans (hb.mono A4.out.2.1.size)
  have x5:=y5.trans (hW.mono y5.size)
  have x4:=E3.out.2.2.trans (x5.mono E3.out.2.2.size)
  have x3:=E2.out.2.2.trans (x4.mono E2.out.2.2.size)
  have x2:=E1.out.2.2.trans (x3.mono E1.out.2.2.size)
  exact ⟨HB2.out.trans (x2.mono HB2.out.size),E1.out.2.1 W x3,E2.out.2.1 W x4,E3.out.2.1 W x5,HV.out W x2⟩)
 clear hb F4
 rw [gr_frame.1,gr_frame.2]
 go_upto_region 7 with fail
 obtain ⟨_,⟨q1,d1⟩,⟨q2,_⟩,⟨q3,_⟩,hv⟩:=HF.out c4 (Below.refl _ _)
 have l1:=(gS q1).1
 have m0:c4.cell? ⟨c1.heap.size,0,none⟩=some (.int .i64 k10):=cH q1 rfl
 have m1:c4.cell? ⟨c1.heap.size,1,none⟩=some (.int .i64 k11):=cH q1 rfl
 have m2:c4.cell? ⟨c1.heap.size,2,none⟩=some (.int .i64 k12):=cH q1 rfl
 have m3:c4.cell? ⟨c1.heap.size,3,none⟩=some (.slice ta1 tn1 tc1):=cH q1 rfl
 have S1:=Lh (gsame_any 10 (.mk 5 0 0 grV) _ [.int .i64 5,.int .i64 0,.int .i64 0,.slice (some ⟨w.heap.size+1,0,none⟩) 2 2] c4 (by decide) (by decide) d1 (Tr.close (u:=⟨some ⟨w.heap.size+1,0,none⟩,w.heap.size+1,0,2⟩) (i64_small (by decide) (by decide)) (i64_small (by decide) (by decide)) (i64_small (by decide) (by decide)) hv))
 clear q1 q2 q3 d1 hv
 go_wp2_with fail
 refine S1.out.mono ?_
 rintro e w5 ⟨rfl,hb5⟩
 have G5:=Lh hb5
 clear hb5 m0 m1 m2 m3 l1 S1
 obtain ⟨_,_,⟨q2,d2⟩,_,hv⟩:=HF.out w5 G5.out
 have l2:=(gS q2).1
 have m0:w5.cell? ⟨c2.heap.size,0,none⟩=some (.int .i64 k20):=cH q2 rfl
 have m1:w5.cell? ⟨c2.heap.size,1,none⟩=some (.int .i64 k21):=cH q2 rfl
 have m2:w5.cell? ⟨c2.heap.size,2,none⟩=some (.int .i64 k22):=cH q2 rfl
 have m3:w5.cell? ⟨c2.heap.size,3,none⟩=some (.slice ta2 tn2 tc2):=cH q2 rfl
 have S2:=Lh (gsame_any 10 (.mk 4 0 0 grV) _ [.int .i64 4,.int .i64 0,.int .i64 0,.slice (some ⟨w.heap.size+1,0,none⟩) 2 2] w5 (by decide) (by decide) d2 (Tr.close (u:=⟨some ⟨w.heap.size+1,0,none⟩,w.heap.size+1,0,2⟩) (i64_small (by decide) (by decide)) (i64_small (by decide) (by decide)) (i64_small (by decide) (by decide)) hv))
 clear q2 d2 hv
 go_wp2_with fail
 refine S2.out.mono ?_
 rintro e w6 ⟨rfl,hb6⟩
 have G6:=Lh (G5.out.trans (hb6.mono G5.out.size))
 clear hb6 m0 m1 m2 m3 l2 S2
 obtain ⟨_,_,_,⟨q3,d3⟩,hv⟩:=HF.out w6 G6.out
 have l3:=(gS q3).1
 have m0:w6.cell? ⟨c3.heap.size,0,none⟩=some (.int .i64 k30):=cH q3 rfl
 have m1:w6.cell? ⟨c3.heap.size,1,none⟩=some (.int .i64 k31):=cH q3 rfl
 have m2:w6.cell? ⟨c3.heap.size,2,none⟩=some (.int .i64 k32):=cH q3 rfl
 have m3:w6.cell? ⟨c3.heap.size,3,none⟩=some (.slice ta3 tn3 tc3):=cH q3 rfl
 have S3:Hid (Calls Tryz.prog 14 #[.agg #[.int .i64 k30,.int .i64 k31,.int .i64 k32,.slice ta3 tn3 tc3],.agg #[.int .i64 3,.int .i64 0,.int .i64 0,.slice (some ⟨w6.heap.size,0,none⟩) 1 1]] (w6.alloc (.cells #[.int .i64 6,.int .i64 0,.int .i64 2,.slice (some ⟨w.heap.size+1,0,none⟩) 2 2] 39)) fun e w'=>e=.returned (.bool true)/\Below c4.heap.size c4 w'):=Lh (by
  have hd:DAt w6 (·<w6.heap.size) (Tr.toD (.mk 6 0 2 grV)) [.int .i64 6,.int .i64 0,.int .i64 2,.slice (some ⟨w.heap.size+1,0,none⟩) 2 2]:=Tr.close (u:=⟨some ⟨w.heap.size+1,0,none⟩,w.heap.size+1,0,2⟩) (i64_small (by decide) (by decide)) (i64_small (by decide) (by decide)) (i64_small (by decide) (by decide)) hv
  have hsl:=SlIn.lit' (lo:=0) (w:=w6) (e:=39) (n:=1) (Nat.zero_le _) (DsAt.one_of' (DAt.mono (fun k (hk:k<w6.heap.size)=>(⟨Nat.zero_le _,hk⟩:Fr 0 w6 k)) _ _ hd)) rfl (by decide)
  have hba:Below w6.heap.size w6 (w6.alloc (.cells #[.int .i64 6,.int .i64 0,.int .i64 2,.slice (some ⟨w.heap.size+1,0,none⟩) 2 2] 39)):=(Below.refl _ _).alloc (Nat.le_refl _) _
  have h1:=DAt.mono (fun k (hk:k<w6.heap.size)=>Nat.lt_of_lt_of_le hk hba.size) _ _ (DAt.agree (agree_of_below hba) _ _ d3)
  have h2:=gsame_any 10 (.mk 3 0 0 [.mk 6 0 2 grV]) _ [.int .i64 3,.int .i64 0,.int .i64 0,.slice (some ⟨w6.heap.size,0,none⟩) 1 1] _ (by decide) (by decide) h1 (Tr.close (u:=⟨some ⟨w6.heap.size,0,none⟩,w6.heap.size,0,1⟩) (i64_small (by decide) (by decide)) (i64_small (by decide) (by decide)) (i64_small (by decide) (by decide)) (hsl.mono (fun _ k=>k.2)))
  refine h2.mono ?_
  rintro e w' ⟨he,hb⟩
  have h3:=G6.out.trans (hba.mono G6.out.size)
  exact ⟨he,h3.trans (hb.mono h3.size)⟩)
 clear q3 d3 hv
 go_wp2_with fail
 refine S3.out.mono ?_
 rintro e w7 ⟨rfl,hb7⟩
 have G7:=Lh hb7
 clear hb7 m0 m1 m2 m3 l3 S3
 go_wp2_with fail
 go_ret
 exact ⟨rfl,(HF.out w7 G7.out).1⟩
end Go.Proofs.YtjjkfgjnadaheaaGreatDoor
