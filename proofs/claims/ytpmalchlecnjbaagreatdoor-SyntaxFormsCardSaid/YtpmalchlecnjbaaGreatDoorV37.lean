/- Joined texts: PPi, PPj, PPk, PPl, PPm. -/
import Derived.Test.YtpmalchlecnjbaaGreatDoorV36
set_option maxHeartbeats 4000000
set_option maxRecDepth 100000
set_option linter.unusedVariables false
set_option linter.unusedSimpArgs false
/- The parser of layer syntax: un, not, bracketed, true, false. (written by tools/gen_ppi.py) -/
namespace Go.Proofs.YtpmalchlecnjbaaGreatDoor
open Go.RowKit Go.Chalk
attribute [local go_sem] Oper.semAt_some
theorem pis_l (P:Nat) (s:Bs) (l:List Tok) (b:Bool) (hb:isT s l=b) (w:World) (h:PAt w P l):Calls Tryz.prog 130 #[.pointer (some ⟨P,0,none⟩),.string ⟨s.toArray⟩] w fun e w'=>e=.returned (.bool b)/\Below w.heap.size w w':=by
 obtain ⟨t,r,rfl⟩:=h.1.cons
 rw [<- hb]
 exact pis_any P s t r w h
theorem pun_not (P:Nat) (w0:World) (hP:w0.heap.size<=P) (l:List Tok) (h1:isT [33] l=true) (hU:FOk w0 P 164 parUn l.tail) (w:World) (h:PAt w P l) (hg:GB w0 w):Calls Tryz.prog 164 #[.pointer (some ⟨P,0,none⟩)] w (PFrm w P ((parUn l.tail).bind fun f l=>.ok (.mk 10 [] 0 [] [] [f]) l)):=by
 obtain ⟨R,hR⟩:∃ R:Rs Frm,R=(parUn l.tail).bind fun f l=>.ok (.mk 10 [] 0 [] [] [f]) l:=⟨_,rfl⟩
 rw [<- hR]
 obtain ⟨RB,hRB⟩:∃ RB,RB=w.heap.size:=⟨_,rfl⟩
 obtain ⟨W0,hW0⟩:∃ W0,W0=w.alloc (.cells #[.int .i64 0,.string ⟨#[]⟩,.int .i64 0,.slice none 0 0,.slice none 0 0,.slice none 0 0] 28):=⟨_,rfl⟩
 have hb0:Below w.heap.size w W0:=by rw [hW0];exact below_new _ _
 have hbx:W0.heap[w.heap.size]?=some (.cells #[.int .i64 0,.string ⟨#[]⟩,.int .i64 0,.slice none 0 0,.slice none 0 0,.slice none 0 0] 28 (0,0)):=by rw [hW0];exact heap_alloc_new _ _
 have hPl:=h.lt
 have HZ:=Lh (fun (W':World) (hW:Chalk.Mod (fun k=>k=P) W0 W')=>(heap_kept hbx hW (by omega):W'.heap[w.heap.size]?=some (.cells #[.int .i64 0,.string ⟨#[]⟩,.int .i64 0,.slice none 0 0,.slice none 0 0,.slice none 0 0] 28 (0,0))))
 have HE:=Lh (fun (W':World) (hW:Chalk.Mod (fun k=>k=P) W0 W')=>(show W'.cell? ⟨RB,0,none⟩=some (.int .i64 0)/\W'.cell? ⟨RB,1,none⟩=some (.string ⟨#[]⟩)/\W'.cell? ⟨RB,2,none⟩=some (.int .i64 0)/\W'.cell? ⟨RB,3,none⟩=some (.slice none 0 0)/\W'.cell? ⟨RB,4,none⟩=some (.slice none 0 0)/\W'.cell? ⟨RB,5,none⟩=some (.slice none 0 0)/\W'.frozen? ⟨RB,0,none⟩=false/\W'.frozen? ⟨RB,1,none⟩=false/\W'.frozen? ⟨RB,2,none⟩=false/\W'.frozen? ⟨RB,3,none⟩=false/\W'.frozen? ⟨RB,4,none⟩=false/\W'.frozen? ⟨RB,5,none⟩=false/\RB<W'.heap.size from by
  have e0:=HZ.out W' hW
  rw [<- hRB] at e0
  exact ⟨cH e0 rfl,cH e0 rfl,cH e0 rfl,cH e0 rfl,cH e0 rfl,cH e0 rfl,fH e0,fH e0,fH e0,fH e0,fH e0,fH e0,(gS e0).1⟩))
 have hs0:W0.heap.size=w.heap.size+1:=by rw [hW0];simp
 have H0:=Lh (aI (h.below hb0) (aI (Chalk.Mod.refl (fun k=>k=P) W0) (aI (hg.below hb0) (aI hPl (aI (Chalk.Mod.of_below (S:=fun k=>k=P) hb0) (aI hs0 hP))))))
 have HW0:=Lh hW0
 have HRB:=Lh hRB
 have HGB:=Lh (fun (W:World) (hm:Chalk.Mod (fun k=>k=P) W0 W)=>(hg.below hb0).mod hP hm)
 have HWM:=Lh (fun (W:World) (hm:Chalk.Mod (fun k=>k=P) W0 W)=>(Chalk.Mod.of_below (S:=fun k=>k=P) hb0).trans hm (fun _ _ h=>h))
 have G0:=Lh (aI H0.out.1 H0.out.2.1)
 have HT1:=Lh (fun (W:World) (hp:PAt W P l)=>ptook_yes P [33] l W hp h1)
 have HU:=Lh hU
 clear h hg hP hb0 hbx hs0 hW0 hU h1 hRB
 cases hO:parUn l.tail with
 | bad m =>
  have HB:=Lh (show R=.bad m by rw [hR,hO];rfl)
  have HPO:=Lh hO
  clear hR hO
  go_enter Tryz.func164,Tryz.ntmps164
  go_wp2_with fail
  rw [<- HW0.out]
  rw [<- HRB.out]
  refine (HT1.out _ G0.out.1).mono ?_
  rintro e w1 ⟨rfl,hp,hm⟩
  have G1:=Lh (aI hp (G0.out.2.trans hm (fun _ _ h=>h)))
  clear hp hm
  go_wp2_with fail
  refine (HU.out w1 G1.out.1 (HGB.out w1 G1.out.2)).mono ?_
  rintro e w2 hp
  obtain ⟨rfl,hm⟩:=hp.fails HPO.out
  exact ⟨rfl,PFrm.bad HB.out (HWM.out w2 (G1.out.2.trans hm (fun _ _ h=>h)))⟩
 | ok f r =>
  have HB:=Lh (show R=.ok (.mk 10 [] 0 [] [] [f]) r by rw [hR,hO];rfl)
  have HPO:=Lh hO
  clear hR hO
  go_enter Tryz.func164,Tryz.ntmps164
  go_wp2_with fail
  rw [<- HW0.out]
  rw [<- HRB.out]
  refine (HT1.out _ G0.out.1).mono ?_
  rintro e w1 ⟨rfl,hp,hm⟩
  have G1:=Lh (aI hp (G0.out.2.trans hm (fun _ _ h=>h)))
  clear hp hm
  go_wp2_with fail
  refine (HU.out w1 G1.out.1 (HGB.out w1 G1.out.2)).mono ?_
  rintro e w2 hp
  obtain ⟨x,rfl,hx,hp2,hm2⟩:=hp.gets HPO.out
  have G2:=Lh (aI hp2 (aI (G1.out.2.trans hm2 (fun _ _ h=>h)) (aI hx (aI G1.out.2.size hm2.size))))
  clear hp hp2 hm2 hx
  rename_i KK hKK
  dsimp only
  refine hKK _ _ ?_
  clear hKK KK
  refine wpList_step fun K hK=>?_
  rw [if_pos (by kernel_rfl)]
  go_simp
  refine hK _ _ ?_
  clear hK K
  try simp only [Act.put,ub1,ub2,ub3]
  have hb:Below w2.heap.size w2 (w2.alloc (.cells #[.int .i64 f.kind,.string ⟨f.name.toArray⟩,.int .i64 f.n,.slice x.t.a f.terms.length x.t.cap,.slice x.b.a f.binds.length x.b.cap,.slice x.l.a f.l.length x.l.cap] 28)):=below_new _ _
  have hrow:(w2.alloc (.cells #[.int .i64 f.kind,.string ⟨f.name.toArray⟩,.int .i64 f.n,.slice x.t.a f.terms.length x.t.cap,.slice x.b.a f.binds.length x.b.cap,.slice x.l.a f.l.length x.l.cap] 28)).heap[w2.heap.size]?=some (.cells #[.int .i64 f.kind,.string ⟨f.name.toArray⟩,.int .i64 f.n,.slice x.t.a f.terms.length x.t.cap,.slice x.b.a f.binds.length x.b.cap,.slice x.l.a f.l.length x.l.cap] 28 (0,0)):=heap_alloc_new _ _
  have hrz:=(gS hrow).1
  obtain ⟨BR,hBR⟩:∃ BR,BR=w2.heap.size:=⟨_,rfl⟩
  rw [<- hBR] at hrow hrz ⊢
  generalize w2.alloc (.cells #[.int .i64 f.kind,.string ⟨f.name.toArray⟩,.int .i64 f.n,.slice x.t.a f.terms.length x.t.cap,.slice x.b.a f.binds.length x.b.cap,.slice x.l.a f.l.length x.l.cap] 28)=w3 at hb hrow hrz ⊢
  have G3:=Lh (aI (G2.out.1.below hb) (aI (G2.out.2.1.trans (Chalk.Mod.of_below (S:=fun k=>k=P) hb) (fun _ _ h=>h)) (aI (G2.out.2.2.1.modB (Chalk.Mod.of_below (S:=fun _=>False) hb) (fun _ h=>h.elim)) (aI hrow (aI hrz (aI hb.size hBR))))))
  clear hb hrow hrz hBR
  obtain ⟨x0,x1,x2,x3,x4,x5,fz0,fz1,fz2,fz3,fz4,fz5,hrl⟩:=HE.out w3 G3.out.2.1
  go_wp2_with fail
  refine bodyPost_ret (v:=.agg #[.int .i64 10,.string ⟨#[]⟩,.int .i64 0,.slice none 0 0,.slice none 0 0,.slice (some ⟨BR,0,none⟩) 1 1]) (by simp [results,Tryz.results164,go_sem, *]) rfl ?_
  rw [HRB.out]
  have hz1:=G2.out.2.2.2.1
  have hz5:=G2.out.2.2.2.2
  have hz0:=H0.out.2.2.2.2.2.1
  have hz2:=G3.out.2.2.2.2.2.1
  have hz3:=G3.out.2.2.2.2.2.2
  have hz4:=G2.out.2.1.size
  exact PFrm.last (f:=.mk 10 [] 0 [] [] [f]) (lo:=w1.heap.size) (x:=⟨noS,noS,⟨some ⟨BR,0,none⟩,BR,0,1⟩⟩) HB.out (HWM.out w3 G3.out.2.1) H0.out.2.2.2.1 (by omega) (node_one G3.out.2.2.2.1 ⟨by omega,G3.out.2.2.2.2.1⟩ G3.out.2.2.1 (SlIn.nil (Nat.zero_le _) _ _ _) (by decide) (by decide)) G3.out.1
theorem pun_brk (P:Nat) (w0:World) (hP:w0.heap.size<=P) (l:List Tok) (h1:isT [33] l=false) (h2:isT [40] l=true) (hU:FOk w0 P 188 parBrk l) (w:World) (h:PAt w P l) (hg:GB w0 w):Calls Tryz.prog 164 #[.pointer (some ⟨P,0,none⟩)] w (PFrm w P (parBrk l)):=by
 obtain ⟨R,hR⟩:∃ R:Rs Frm,R=parBrk l:=⟨_,rfl⟩
 rw [<- hR]
 obtain ⟨RB,hRB⟩:∃ RB,RB=w.heap.size:=⟨_,rfl⟩
 obtain ⟨W0,hW0⟩:∃ W0,W0=w.alloc (.cells #[.int .i64 0,.string ⟨#[]⟩,.int .i64 0,.slice none 0 0,.slice none 0 0,.slice none 0 0] 28):=⟨_,rfl⟩
 have hb0:Below w.heap.size w W0:=by rw [hW0];exact below_new _ _
 have hbx:W0.heap[w.heap.size]?=some (.cells #[.int .i64 0,.string ⟨#[]⟩,.int .i64 0,.slice none 0 0,.slice none 0 0,.slice none 0 0] 28 (0,0)):=by rw [hW0];exact heap_alloc_new _ _
 have hPl:=h.lt
 have HZ:=Lh (fun (W':World) (hW:Chalk.Mod (fun k=>k=P) W0 W')=>(heap_kept hbx hW (by omega):W'.heap[w.heap.size]?=some (.cells #[.int .i64 0,.string ⟨#[]⟩,.int .i64 0,.slice none 0 0,.slice none 0 0,.slice none 0 0] 28 (0,0))))
 have HE:=Lh (fun (W':World) (hW:Chalk.Mod (fun k=>k=P) W0 W')=>(show W'.cell? ⟨RB,0,none⟩=some (.int .i64 0)/\W'.cell? ⟨RB,1,none⟩=some (.string ⟨#[]⟩)/\W'.cell? ⟨RB,2,none⟩=some (.int .i64 0)/\W'.cell? ⟨RB,3,none⟩=some (.slice none 0 0)/\W'.cell? ⟨RB,4,none⟩=some (.slice none 0 0)/\W'.cell? ⟨RB,5,none⟩=some (.slice none 0 0)/\W'.frozen? ⟨RB,0,none⟩=false/\W'.frozen? ⟨RB,1,none⟩=false/\W'.frozen? ⟨RB,2,none⟩=false/\W'.frozen? ⟨RB,3,none⟩=false/\W'.frozen? ⟨RB,4,none⟩=false/\W'.frozen? ⟨RB,5,none⟩=false/\RB<W'.heap.size from by
  have e0:=HZ.out W' hW
  rw [<- hRB] at e0
  exact ⟨cH e0 rfl,cH e0 rfl,cH e0 rfl,cH e0 rfl,cH e0 rfl,cH e0 rfl,fH e0,fH e0,fH e0,fH e0,fH e0,fH e0,(gS e0).1⟩))
 have hs0:W0.heap.size=w.heap.size+1:=by rw [hW0];simp
 have H0:=Lh (aI (h.below hb0) (aI (Chalk.Mod.refl (fun k=>k=P) W0) (aI (hg.below hb0) (aI hPl (aI (Chalk.Mod.of_below (S:=fun k=>k=P) hb0) (aI hs0 hP))))))
 have HW0:=Lh hW0
 have HRB:=Lh hRB
 have HGB:=Lh (fun (W:World) (hm:Chalk.Mod (fun k=>k=P) W0 W)=>(hg.below hb0).mod hP hm)
 have HWM:=Lh (fun (W:World) (hm:Chalk.Mod (fun k=>k=P) W0 W)=>(Chalk.Mod.of_below (S:=fun k=>k=P) hb0).trans hm (fun _ _ h=>h))
 have G0:=Lh (aI H0.out.1 H0.out.2.1)
 have HT1:=Lh (fun (W:World) (hp:PAt W P l)=>ptook_no P [33] l W hp h1)
 have HT2:=Lh (fun (W:World) (hp:PAt W P l)=>pis_l P [40] l true h2 W hp)
 have HU:=Lh hU
 clear h hg hP hb0 hbx hs0 hW0 hU h1 h2 hRB
 cases hO:parBrk l with
 | bad m =>
  have HB:=Lh (show R=.bad m by rw [hR,hO])
  have HPO:=Lh hO
  clear hR hO
  go_enter Tryz.func164,Tryz.ntmps164
  go_wp2_with fail
  rw [<- HW0.out]
  rw [<- HRB.out]
  refine (HT1.out _ G0.out.1).mono ?_
  rintro e w1 ⟨rfl,hb⟩
  have G1:=Lh (aI (G0.out.1.below hb) (G0.out.2.trans (Chalk.Mod.of_below (S:=fun k=>k=P) hb) (fun _ _ h=>h)))
  clear hb
  go_wp2_with fail
  refine (HT2.out _ G1.out.1).mono ?_
  rintro e w2 ⟨rfl,hb⟩
  have G2:=Lh (aI (G1.out.1.below hb) (G1.out.2.trans (Chalk.Mod.of_below (S:=fun k=>k=P) hb) (fun _ _ h=>h)))
  clear hb
  go_wp2_with fail
  refine (HU.out w2 G2.out.1 (HGB.out w2 G2.out.2)).mono ?_
  rintro e w3 hp
  obtain ⟨rfl,hm⟩:=hp.fails HPO.out
  exact ⟨rfl,PFrm.bad HB.out (HWM.out w3 (G2.out.2.trans hm (fun _ _ h=>h)))⟩
 | ok f r =>
  have HB:=Lh (show R=.ok f r by rw [hR,hO])
  have HPO:=Lh hO
  clear hR hO
  go_enter Tryz.func164,Tryz.ntmps164
  go_wp2_with fail
  rw [<- HW0.out]
  rw [<- HRB.out]
  refine (HT1.out _ G0.out.1).mono ?_
  rintro e w1 ⟨rfl,hb⟩
  have G1:=Lh (aI (G0.out.1.below hb) (G0.out.2.trans (Chalk.Mod.of_below (S:=fun k=>k=P) hb) (fun _ _ h=>h)))
  clear hb
  go_wp2_with fail
  refine (HT2.out _ G1.out.1).mono ?_
  rintro e w2 ⟨rfl,hb⟩
  have G2:=Lh (aI (G1.out.1.below hb) (G1.out.2.trans (Chalk.Mod.of_below (S:=fun k=>k=P) hb) (fun _ _ h=>h)))
  clear hb
  go_wp2_with fail
  refine (HU.out w2 G2.out.1 (HGB.out w2 G2.out.2)).mono ?_
  rintro e w3 hp
  obtain ⟨x,rfl,hx,hp2,hm2⟩:=hp.gets HPO.out
  have G3:=Lh (aI hp2 (aI (G2.out.2.trans hm2 (fun _ _ h=>h)) (aI hx G2.out.2.size)))
  clear hp hp2 hm2 hx
  obtain ⟨x0,x1,x2,x3,x4,x5,fz0,fz1,fz2,fz3,fz4,fz5,hrl⟩:=HE.out w3 G3.out.2.1
  go_wp2_with fail
  refine bodyPost_ret (v:=.agg #[.int .i64 f.kind,.string ⟨f.name.toArray⟩,.int .i64 f.n,.slice x.t.a f.terms.length x.t.cap,.slice x.b.a f.binds.length x.b.cap,.slice x.l.a f.l.length x.l.cap]) (by simp [results,Tryz.results164,go_sem, *]) rfl ?_
  rw [HRB.out]
  exact PFrm.last HB.out (HWM.out w3 G3.out.2.1) H0.out.2.2.2.1 (show w.heap.size<w2.heap.size by have:=H0.out.2.2.2.2.2.1;have:=G3.out.2.2.2;omega) G3.out.2.2.1 G3.out.1
theorem pun_tru (P:Nat) (w0:World) (hP:w0.heap.size<=P) (l:List Tok) (h1:isT [33] l=false) (h2:isT [40] l=false) (h3:isT [116,114,117,101] l=true) (w:World) (h:PAt w P l) (hg:GB w0 w):Calls Tryz.prog 164 #[.pointer (some ⟨P,0,none⟩)] w (PFrm w P (.ok (.mk 1 [] 0 [] [] []) l.tail)):=by
 obtain ⟨R,hR⟩:∃ R:Rs Frm,R=.ok (.mk 1 [] 0 [] [] []) l.tail:=⟨_,rfl⟩
 rw [<- hR]
 obtain ⟨RB,hRB⟩:∃ RB,RB=w.heap.size:=⟨_,rfl⟩
 obtain ⟨W0,hW0⟩:∃ W0,W0=w.alloc (.cells #[.int .i64 0,.string ⟨#[]⟩,.int .i64 0,.slice none 0 0,.slice none 0 0,.slice none 0 0] 28):=⟨_,rfl⟩
 have hb0:Below w.heap.size w W0:=by rw [hW0];exact below_new _ _
 have hbx:W0.heap[w.heap.size]?=some (.cells #[.int .i64 0,.string ⟨#[]⟩,.int .i64 0,.slice none 0 0,.slice none 0 0,.slice none 0 0] 28 (0,0)):=by rw [hW0];exact heap_alloc_new _ _
 have hPl:=h.lt
 have HZ:=Lh (fun (W':World) (hW:Chalk.Mod (fun k=>k=P) W0 W')=>(heap_kept hbx hW (by omega):W'.heap[w.heap.size]?=some (.cells #[.int .i64 0,.string ⟨#[]⟩,.int .i64 0,.slice none 0 0,.slice none 0 0,.slice none 0 0] 28 (0,0))))
 have HE:=Lh (fun (W':World) (hW:Chalk.Mod (fun k=>k=P) W0 W')=>(show W'.cell? ⟨RB,0,none⟩=some (.int .i64 0)/\W'.cell? ⟨RB,1,none⟩=some (.string ⟨#[]⟩)/\W'.cell? ⟨RB,2,none⟩=some (.int .i64 0)/\W'.cell? ⟨RB,3,none⟩=some (.slice none 0 0)/\W'.cell? ⟨RB,4,none⟩=some (.slice none 0 0)/\W'.cell? ⟨RB,5,none⟩=some (.slice none 0 0)/\W'.frozen? ⟨RB,0,none⟩=false/\W'.frozen? ⟨RB,1,none⟩=false/\W'.frozen? ⟨RB,2,none⟩=false/\W'.frozen? ⟨RB,3,none⟩=false/\W'.frozen? ⟨RB,4,none⟩=false/\W'.frozen? ⟨RB,5,none⟩=false/\RB<W'.heap.size from by
  have e0:=HZ.out W' hW
  rw [<- hRB] at e0
  exact ⟨cH e0 rfl,cH e0 rfl,cH e0 rfl,cH e0 rfl,cH e0 rfl,cH e0 rfl,fH e0,fH e0,fH e0,fH e0,fH e0,fH e0,(gS e0).1⟩))
 have hs0:W0.heap.size=w.heap.size+1:=by rw [hW0];simp
 have H0:=Lh (aI (h.below hb0) (aI (Chalk.Mod.refl (fun k=>k=P) W0) (aI (hg.below hb0) (aI hPl (aI (Chalk.Mod.of_below (S:=fun k=>k=P) hb0) (aI hs0 hP))))))
 have HW0:=Lh hW0
 have HRB:=Lh hRB
 have HGB:=Lh (fun (W:World) (hm:Chalk.Mod (fun k=>k=P) W0 W)=>(hg.below hb0).mod hP hm)
 have HWM:=Lh (fun (W:World) (hm:Chalk.Mod (fun k=>k=P) W0 W)=>(Chalk.Mod.of_below (S:=fun k=>k=P) hb0).trans hm (fun _ _ h=>h))
 have G0:=Lh (aI H0.out.1 H0.out.2.1)
 have HT1:=Lh (fun (W:World) (hp:PAt W P l)=>ptook_no P [33] l W hp h1)
 have HT2:=Lh (fun (W:World) (hp:PAt W P l)=>pis_l P [40] l false h2 W hp)
 have HT3:=Lh (fun (W:World) (hp:PAt W P l)=>ptook_yes P [116,114,117,101] l W hp h3)
 have HB:=Lh hR
 clear h hg hP hb0 hbx hs0 hW0 hR h1 h2 h3 hRB
 go_enter Tryz.func164,Tryz.ntmps164
 go_wp2_with fail
 rw [<- HW0.out]
 rw [<- HRB.out]
 refine (HT1.out _ G0.out.1).mono ?_
 rintro e w1 ⟨rfl,hb⟩
 have G1:=Lh (aI (G0.out.1.below hb) (G0.out.2.trans (Chalk.Mod.of_below (S:=fun k=>k=P) hb) (fun _ _ h=>h)))
 clear hb
 go_wp2_with fail
 refine (HT2.out _ G1.out.1).mono ?_
 rintro e w2 ⟨rfl,hb⟩
 have G2:=Lh (aI (G1.out.1.below hb) (G1.out.2.trans (Chalk.Mod.of_below (S:=fun k=>k=P) hb) (fun _ _ h=>h)))
 clear hb
 go_wp2_with fail
 refine (HT3.out _ G2.out.1).mono ?_
 rintro e w3 ⟨rfl,hp,hm⟩
 have G3:=Lh (aI hp (G2.out.2.trans hm (fun _ _ h=>h)))
 clear hp hm
 obtain ⟨x0,x1,x2,x3,x4,x5,fz0,fz1,fz2,fz3,fz4,fz5,hrl⟩:=HE.out w3 G3.out.2
 go_wp2_with fail
 refine bodyPost_ret (v:=.agg #[.int .i64 1,.string ⟨#[]⟩,.int .i64 0,.slice none 0 0,.slice none 0 0,.slice none 0 0]) (by simp [results,Tryz.results164,go_sem, *]) rfl ?_
 rw [HRB.out]
 exact PFrm.last (f:=.mk 1 [] 0 [] [] []) (x:=⟨noS,noS,noS⟩) HB.out (HWM.out w3 G3.out.2) H0.out.2.2.2.1 (Nat.lt_succ_self _) (leaf_in' _ _ (by decide)) G3.out.1
theorem pun_fal (P:Nat) (w0:World) (hP:w0.heap.size<=P) (l:List Tok) (h1:isT [33] l=false) (h2:isT [40] l=false) (h3:isT [116,114,117,101] l=false) (h4:isT [102,97,108,115,101] l=true) (w:World) (h:PAt w P l) (hg:GB w0 w):Calls Tryz.prog 164 #[.pointer (some ⟨P,0,none⟩)] w (PFrm w P (.ok (.mk 2 [] 0 [] [] []) l.tail)):=by
 obtain ⟨R,hR⟩:∃ R:Rs Frm,R=.ok (.mk 2 [] 0 [] [] []) l.tail:=⟨_,rfl⟩
 rw [<- hR]
 obtain ⟨RB,hRB⟩:∃ RB,RB=w.heap.size:=⟨_,rfl⟩
 obtain ⟨W0,hW0⟩:∃ W0,W0=w.alloc (.cells #[.int .i64 0,.string ⟨#[]⟩,.int .i64 0,.slice none 0 0,.slice none 0 0,.slice none 0 0] 28):=⟨_,rfl⟩
 have hb0:Below w.heap.size w W0:=by rw [hW0];exact below_new _ _
 have hbx:W0.heap[w.heap.size]?=some (.cells #[.int .i64 0,.string ⟨#[]⟩,.int .i64 0,.slice none 0 0,.slice none 0 0,.slice none 0 0] 28 (0,0)):=by rw [hW0];exact heap_alloc_new _ _
 have hPl:=h.lt
 have HZ:=Lh (fun (W':World) (hW:Chalk.Mod (fun k=>k=P) W0 W')=>(heap_kept hbx hW (by omega):W'.heap[w.heap.size]?=some (.cells #[.int .i64 0,.string ⟨#[]⟩,.int .i64 0,.slice none 0 0,.slice none 0 0,.slice none 0 0] 28 (0,0))))
 have HE:=Lh (fun (W':World) (hW:Chalk.Mod (fun k=>k=P) W0 W')=>(show W'.cell? ⟨RB,0,none⟩=some (.int .i64 0)/\W'.cell? ⟨RB,1,none⟩=some (.string ⟨#[]⟩)/\W'.cell? ⟨RB,2,none⟩=some (.int .i64 0)/\W'.cell? ⟨RB,3,none⟩=some (.slice none 0 0)/\W'.cell? ⟨RB,4,none⟩=some (.slice none 0 0)/\W'.cell? ⟨RB,5,none⟩=some (.slice none 0 0)/\W'.frozen? ⟨RB,0,none⟩=false/\W'.frozen? ⟨RB,1,none⟩=false/\W'.frozen? ⟨RB,2,none⟩=false/\W'.frozen? ⟨RB,3,none⟩=false/\W'.frozen? ⟨RB,4,none⟩=false/\W'.frozen? ⟨RB,5,none⟩=false/\RB<W'.heap.size from by
  have e0:=HZ.out W' hW
  rw [<- hRB] at e0
  exact ⟨cH e0 rfl,cH e0 rfl,cH e0 rfl,cH e0 rfl,cH e0 rfl,cH e0 rfl,fH e0,fH e0,fH e0,fH e0,fH e0,fH e0,(gS e0).1⟩))
 have hs0:W0.heap.size=w.heap.size+1:=by rw [hW0];simp
 have H0:=Lh (aI (h.below hb0) (aI (Chalk.Mod.refl (fun k=>k=P) W0) (aI (hg.below hb0) (aI hPl (aI (Chalk.Mod.of_below (S:=fun k=>k=P) hb0) (aI hs0 hP))))))
 have HW0:=Lh hW0
 have HRB:=Lh hRB
 have HGB:=Lh (fun (W:World) (hm:Chalk.Mod (fun k=>k=P) W0 W)=>(hg.below hb0).mod hP hm)
 have HWM:=Lh (fun (W:World) (hm:Chalk.Mod (fun k=>k=P) W0 W)=>(Chalk.Mod.of_below (S:=fun k=>k=P) hb0).trans hm (fun _ _ h=>h))
 have G0:=Lh (aI H0.out.1 H0.out.2.1)
 have HT1:=Lh (fun (W:World) (hp:PAt W P l)=>ptook_no P [33] l W hp h1)
 have HT2:=Lh (fun (W:World) (hp:PAt W P l)=>pis_l P [40] l false h2 W hp)
 have HT3:=Lh (fun (W:World) (hp:PAt W P l)=>ptook_no P [116,114,117,101] l W hp h3)
 have HT4:=Lh (fun (W:World) (hp:PAt W P l)=>ptook_yes P [102,97,108,115,101] l W hp h4)
 have HB:=Lh hR
 clear h hg hP hb0 hbx hs0 hW0 hR h1 h2 h3 h4 hRB
 go_enter Tryz.func164,Tryz.ntmps164
 go_wp2_with fail
 rw [<- HW0.out]
 rw [<- HRB.out]
 refine (HT1.out _ G0.out.1).mono ?_
 rintro e w1 ⟨rfl,hb⟩
 have G1:=Lh (aI (G0.out.1.below hb) (G0.out.2.trans (Chalk.Mod.of_below (S:=fun k=>k=P) hb) (fun _ _ h=>h)))
 clear hb
 go_wp2_with fail
 refine (HT2.out _ G1.out.1).mono ?_
 rintro e w2 ⟨rfl,hb⟩
 have G2:=Lh (aI (G1.out.1.below hb) (G1.out.2.trans (Chalk.Mod.of_below (S:=fun k=>k=P) hb) (fun _ _ h=>h)))
 clear hb
 go_wp2_with fail
 refine (HT3.out _ G2.out.1).mono ?_
 rintro e w3 ⟨rfl,hb⟩
 have G3:=Lh (aI (G2.out.1.below hb) (G2.out.2.trans (Chalk.Mod.of_below (S:=fun k=>k=P) hb) (fun _ _ h=>h)))
 clear hb
 go_wp2_with fail
 refine (HT4.out _ G3.out.1).mono ?_
 rintro e w4 ⟨rfl,hp,hm⟩
 have G4:=Lh (aI hp (G3.out.2.trans hm (fun _ _ h=>h)))
 clear hp hm
 obtain ⟨x0,x1,x2,x3,x4,x5,fz0,fz1,fz2,fz3,fz4,fz5,hrl⟩:=HE.out w4 G4.out.2
 go_wp2_with fail
 refine bodyPost_ret (v:=.agg #[.int .i64 2,.string ⟨#[]⟩,.int .i64 0,.slice none 0 0,.slice none 0 0,.slice none 0 0]) (by simp [results,Tryz.results164,go_sem, *]) rfl ?_
 rw [HRB.out]
 exact PFrm.last (f:=.mk 2 [] 0 [] [] []) (x:=⟨noS,noS,noS⟩) HB.out (HWM.out w4 G4.out.2) H0.out.2.2.2.1 (Nat.lt_succ_self _) (leaf_in' _ _ (by decide)) G4.out.1
end Go.Proofs.YtpmalchlecnjbaaGreatDoor
/- The parser of layer syntax: un, quantifiers. (written by tools/gen_ppj.py) -/
namespace Go.Proofs.YtpmalchlecnjbaaGreatDoor
open Go.RowKit Go.Chalk
attribute [local go_sem] Oper.semAt_some
def PRes (w:World) (P:Nat) {α:Type} (R:Rs α) (V:α->Value) (e:Ending) (w':World):Prop :=
 Chalk.Mod (fun k=>k=P) w w'/\match R with
  | .ok a r=>e=.returned (V a)/\PAt w' P r
  | .bad n=>e=.panicked (wrongP n)
theorem PRes.gets {w w':World} {P:Nat} {α:Type} {R:Rs α} {V:α->Value} {a:α} {r:List Tok} {e:Ending} (h:PRes w P R V e w') (hR:R=.ok a r):e=.returned (V a)/\PAt w' P r/\Chalk.Mod (fun k=>k=P) w w':=by
 subst hR;exact ⟨h.2.1,h.2.2,h.1⟩
theorem PRes.fails {w w':World} {P n:Nat} {α:Type} {R:Rs α} {V:α->Value} {e:Ending} (h:PRes w P R V e w') (hR:R=.bad n):e=.panicked (wrongP n)/\Chalk.Mod (fun k=>k=P) w w':=by
 subst hR;exact ⟨h.2,h.1⟩
theorem PBinds.gets {w w':World} {P:Nat} {R:Rs (List Bnd)} {bs:List Bnd} {r:List Tok} {e:Ending} (h:PBinds w P R e w') (hR:R=.ok bs r):∃ z:SlA,e=.returned (.slice z.a bs.length z.cap)/\SlIn w' (Fr w.heap.size w') (bs.map Bnd.toD) z/\PAt w' P r/\Chalk.Mod (fun k=>k=P) w w':=by
 subst hR
 obtain ⟨v,rfl,ho⟩:=h.2.1
 obtain ⟨z,rfl,hz⟩:=ho.sl (bnds_widths bs)
 exact ⟨z,by simp [SlA.val],hz,h.2.2,h.1⟩
theorem PBinds.fails {w w':World} {P n:Nat} {R:Rs (List Bnd)} {e:Ending} (h:PBinds w P R e w') (hR:R=.bad n):e=.panicked (wrongP n)/\Chalk.Mod (fun k=>k=P) w w':=by
 subst hR;exact ⟨h.2,h.1⟩
theorem PTerm.gets {w w':World} {P:Nat} {R:Rs Trm} {t:Trm} {r:List Tok} {e:Ending} (h:PTerm w P R e w') (hR:R=.ok t r):e=.returned (.agg #[.int .i64 t.kind,.string ⟨t.name.toArray⟩,.int .i64 t.n])/\TrmOk t/\PAt w' P r/\Chalk.Mod (fun k=>k=P) w w':=by
 subst hR;exact ⟨h.2.1,h.2.2.1,h.2.2.2,h.1⟩
theorem PTerm.fails {w w':World} {P n:Nat} {R:Rs Trm} {e:Ending} (h:PTerm w P R e w') (hR:R=.bad n):e=.panicked (wrongP n)/\Chalk.Mod (fun k=>k=P) w w':=by
 subst hR;exact ⟨h.2,h.1⟩
theorem pnum_u (P:Nat) (l:List Tok) (least most:Int) (hm:most<=1099511627776) (w:World) (h:PAt w P l) (hg:GS w):Calls Tryz.prog 97 #[.pointer (some ⟨P,0,none⟩),.int .i64 least,.int .i64 most] w (PRes w P (pNumber least most l) fun n=>.int .i64 n):=by
 cases hO:pNumber least most l with
 | ok n r=>exact (pnumber_ok P l r least most n w hm h hg hO).mono (by rintro e w' ⟨rfl,hp,hm⟩;exact ⟨hm,rfl,hp⟩)
 | bad n=>exact (pnumber_bad P l least most n w h hg hO).mono (by rintro e w' ⟨rfl,hm⟩;exact ⟨hm,rfl⟩)
theorem pname_u (P:Nat) (l:List Tok) (w:World) (h:PAt w P l) (hg:GAt w):Calls Tryz.prog 96 #[.pointer (some ⟨P,0,none⟩)] w (PRes w P (pName l) fun s=>.string ⟨s.toArray⟩):=by
 cases hO:pName l with
 | ok s r=>exact (pname_ok P l r s w h hg hO).mono (by rintro e w' ⟨rfl,hp,hm⟩;exact ⟨hm,rfl,hp⟩)
 | bad n=>exact (pname_bad P l n w h hg hO).mono (by rintro e w' ⟨rfl,hm⟩;exact ⟨hm,rfl⟩)
theorem pwant_u (P:Nat) (s:Bs) (l:List Tok) (w:World) (h:PAt w P l):Calls Tryz.prog 99 #[.pointer (some ⟨P,0,none⟩),.string ⟨s.toArray⟩] w (PRes w P (pWant s l) fun _=>.tuple #[]):=by
 unfold pWant
 by_cases hs:isT s l=true
 ·rw [if_pos hs];exact (pwant_yes P s l w h hs).mono (by rintro e w' ⟨rfl,hp,hm⟩;exact ⟨hm,rfl,hp⟩)
 ·rw [if_neg hs];exact (pwant_no P s l w h (by simpa using hs)).mono (by rintro e w' ⟨rfl,hm⟩;exact ⟨hm,rfl⟩)
theorem num_range {a b n:Int} {l r:List Tok} (h:pNumber a b l=.ok n r):a<=n/\n<=b:=by
 cases l with
 | nil=>cases h
 | cons t q =>
  rw [pNumber] at h
  split at h
  ·rename_i hc;cases h;exact hc.2
  ·cases h
theorem pun_all (P:Nat) (w0:World) (hP:w0.heap.size<=P) (l:List Tok) (h1:isT [33] l=false) (h2:isT [40] l=false) (h3:isT [116,114,117,101] l=false) (h4:isT [102,97,108,115,101] l=false) (k:Int) (hk:kwT kwAll l=some k) (hU:∀ l':List Tok,l'.length<l.length->FOk w0 P 188 parBrk l') (w:World) (h:PAt w P l) (hg:GB w0 w):Calls Tryz.prog 164 #[.pointer (some ⟨P,0,none⟩)] w (PFrm w P (parQuant k l.tail)):=by
 obtain ⟨R,hR⟩:∃ R:Rs Frm,R=parQuant k l.tail:=⟨_,rfl⟩
 rw [<- hR]
 obtain ⟨RB,hRB⟩:∃ RB,RB=w.heap.size:=⟨_,rfl⟩
 obtain ⟨W0,hW0⟩:∃ W0,W0=w.alloc (.cells #[.int .i64 0,.string ⟨#[]⟩,.int .i64 0,.slice none 0 0,.slice none 0 0,.slice none 0 0] 28):=⟨_,rfl⟩
 have hb0:Below w.heap.size w W0:=by rw [hW0];exact below_new _ _
 have hbx:W0.heap[w.heap.size]?=some (.cells #[.int .i64 0,.string ⟨#[]⟩,.int .i64 0,.slice none 0 0,.slice none 0 0,.slice none 0 0] 28 (0,0)):=by rw [hW0];exact heap_alloc_new _ _
 have hPl:=h.lt
 have HZ:=Lh (fun (W':World) (hW:Chalk.Mod (fun k=>k=P) W0 W')=>(heap_kept hbx hW (by omega):W'.heap[w.heap.size]?=some (.cells #[.int .i64 0,.string ⟨#[]⟩,.int .i64 0,.slice none 0 0,.slice none 0 0,.slice none 0 0] 28 (0,0))))
 have HE:=Lh (fun (W':World) (hW:Chalk.Mod (fun k=>k=P) W0 W')=>(show W'.cell? ⟨RB,0,none⟩=some (.int .i64 0)/\W'.cell? ⟨RB,1,none⟩=some (.string ⟨#[]⟩)/\W'.cell? ⟨RB,2,none⟩=some (.int .i64 0)/\W'.cell? ⟨RB,3,none⟩=some (.slice none 0 0)/\W'.cell? ⟨RB,4,none⟩=some (.slice none 0 0)/\W'.cell? ⟨RB,5,none⟩=some (.slice none 0 0)/\W'.frozen? ⟨RB,0,none⟩=false/\W'.frozen? ⟨RB,1,none⟩=false/\W'.frozen? ⟨RB,2,none⟩=false/\W'.frozen? ⟨RB,3,none⟩=false/\W'.frozen? ⟨RB,4,none⟩=false/\W'.frozen? ⟨RB,5,none⟩=false/\RB<W'.heap.size from by
  have e0:=HZ.out W' hW
  rw [<- hRB] at e0
  exact ⟨cH e0 rfl,cH e0 rfl,cH e0 rfl,cH e0 rfl,cH e0 rfl,cH e0 rfl,fH e0,fH e0,fH e0,fH e0,fH e0,fH e0,(gS e0).1⟩))
 have hs0:W0.heap.size=w.heap.size+1:=by rw [hW0];simp
 have H0:=Lh (aI (h.below hb0) (aI (Chalk.Mod.refl (fun k=>k=P) W0) (aI (hg.below hb0) (aI hPl (aI (Chalk.Mod.of_below (S:=fun k=>k=P) hb0) (aI hs0 hP))))))
 have HW0:=Lh hW0
 have HRB:=Lh hRB
 have HGB:=Lh (fun (W:World) (hm:Chalk.Mod (fun k=>k=P) W0 W)=>(hg.below hb0).mod hP hm)
 have HWM:=Lh (fun (W:World) (hm:Chalk.Mod (fun k=>k=P) W0 W)=>(Chalk.Mod.of_below (S:=fun k=>k=P) hb0).trans hm (fun _ _ h=>h))
 have G0:=Lh (aI H0.out.1 H0.out.2.1)
 have HT1:=Lh (fun (W:World) (hp:PAt W P l)=>ptook_no P [33] l W hp h1)
 have HT2:=Lh (fun (W:World) (hp:PAt W P l)=>pis_l P [40] l false h2 W hp)
 have HT3:=Lh (fun (W:World) (hp:PAt W P l)=>ptook_no P [116,114,117,101] l W hp h3)
 have HT4:=Lh (fun (W:World) (hp:PAt W P l)=>ptook_no P [102,97,108,115,101] l W hp h4)
 have HO:=Lh (fun (bm:Nat) (W:World) (hp:PAt W P l) (hm:KwAt W bm kwAll)=>pone_yes P bm kwAll l k W hp hm hk)
 have HKR:=Lh (kwT_range (by decide) hk)
 have HU:=Lh hU
 have HL0:=Lh (show l.tail.length<l.length from by obtain ⟨t,r,e⟩:=h.1.cons;rw [e];simp)
 have HPP:=Lh (aI hP hPl)
 clear h hg hP hb0 hbx hs0 hW0 hU h1 h2 h3 h4 hk hRB
 by_cases h16:16<=k
 ·have HRQ:=Lh (show R=(pNumber 0 1099511627776 l.tail).bind fun x l=>(pBinds 6 l).bind fun b l=>(parBrk l).bind fun f l=>.ok (.mk k [] x [] b [f]) l from by rw [hR,parQuant,if_pos h16])
  clear hR
  go_enter Tryz.func164,Tryz.ntmps164
  go_wp2_with fail
  rw [<- HW0.out]
  rw [<- HRB.out]
  refine (HT1.out _ G0.out.1).mono ?_
  rintro e w1 ⟨rfl,hb⟩
  have G1:=Lh (aI (G0.out.1.below hb) (G0.out.2.trans (Chalk.Mod.of_below (S:=fun k=>k=P) hb) (fun _ _ h=>h)))
  clear hb
  go_wp2_with fail
  refine (HT2.out _ G1.out.1).mono ?_
  rintro e w2 ⟨rfl,hb⟩
  have G2:=Lh (aI (G1.out.1.below hb) (G1.out.2.trans (Chalk.Mod.of_below (S:=fun k=>k=P) hb) (fun _ _ h=>h)))
  clear hb
  go_wp2_with fail
  refine (HT3.out _ G2.out.1).mono ?_
  rintro e w3 ⟨rfl,hb⟩
  have G3:=Lh (aI (G2.out.1.below hb) (G2.out.2.trans (Chalk.Mod.of_below (S:=fun k=>k=P) hb) (fun _ _ h=>h)))
  clear hb
  go_wp2_with fail
  refine (HT4.out _ G3.out.1).mono ?_
  rintro e w4 ⟨rfl,hb⟩
  have G4:=Lh (aI (G3.out.1.below hb) (G3.out.2.trans (Chalk.Mod.of_below (S:=fun k=>k=P) hb) (fun _ _ h=>h)))
  clear hb
  go_wp2_with fail
  refine (alls_any w4).mono ?_
  rintro e w5 ⟨rfl,rfl⟩
  have hb:Below w4.heap.size w4 (w4.alloc (.map (kwEs 0 kwAll).toArray 4)):=below_new _ _
  have hk:KwAt (w4.alloc (.map (kwEs 0 kwAll).toArray 4)) w4.heap.size kwAll:=heap_alloc_new _ _
  generalize w4.alloc (.map (kwEs 0 kwAll).toArray 4)=w5 at hb hk ⊢
  have G5:=Lh (aI (G4.out.1.below hb) (G4.out.2.trans (Chalk.Mod.of_below (S:=fun k=>k=P) hb) (fun _ _ h=>h)))
  have KW:=Lh hk
  clear hb hk
  go_wp2_with fail
  refine (HO.out _ w5 G5.out.1 KW.out).mono ?_
  rintro e w6 ⟨rfl,hp,hm⟩
  obtain ⟨B5,hB5⟩:∃ B5,B5=w6.heap.size:=⟨_,rfl⟩
  obtain ⟨w7,hw7⟩:∃ w7,w7=w6.alloc (.cells #[.int .i64 k,.string ⟨#[]⟩,.int .i64 0,.slice none 0 0,.slice none 0 0,.slice none 0 0] 28):=⟨_,rfl⟩
  have hb7:Below w6.heap.size w6 w7:=by rw [hw7];exact below_new _ _
  have hx7:w7.heap[B5]?=some (.cells #[.int .i64 k,.string ⟨#[]⟩,.int .i64 0,.slice none 0 0,.slice none 0 0,.slice none 0 0] 28 (0,0)):=by rw [hw7,hB5];exact heap_alloc_new _ _
  have hpl:=hp.lt
  have h06:=(G5.out.2.trans hm (fun _ _ h=>h)).size
  have G7:=Lh (aI (hp.below hb7) (aI (G5.out.2.trans (hm.trans (Chalk.Mod.of_below (S:=fun k=>k=P) hb7) (fun _ _ h=>h)) (fun _ _ h=>h)) (aI hx7 (show P<B5/\W0.heap.size<=B5 from ⟨by omega,by omega⟩))))
  have HW7:=Lh hw7
  have HB5:=Lh hB5
  clear hp hm hpl h06 hb7 hx7 hw7 hB5
  go_wp2_with fail
  rw [<- HW7.out,<- HB5.out]
  refine (pnum_u P l.tail 0 1099511627776 (by decide) w7 G7.out.1 (HGB.out w7 G7.out.2.1).gs).mono ?_
  rintro e w8 hp
  cases hO1:pNumber 0 1099511627776 l.tail with
  | bad m =>
   obtain ⟨rfl,hm⟩:=hp.fails hO1
   exact ⟨rfl,PFrm.bad (by rw [HRQ.out];simp only [Rs.bind,hO1]) (HWM.out w8 (G7.out.2.1.trans hm (fun _ _ h=>h)))⟩
  | ok n r1 =>
   have HO1:=Lh hO1
   have HNN:=Lh (num_range hO1)
   have hl1:=(pNumber_eat hO1).len
   have HL1:=Lh (show r1.length<l.length from by have:=HL0.out;omega)
   obtain ⟨rfl,hp,hm⟩:=hp.gets hO1
   have hx:=heap_kept G7.out.2.2.1 hm (by have:=G7.out.2.2.2;omega)
   have G8:=Lh (aI hp (aI (G7.out.2.1.trans hm (fun _ _ h=>h)) (aI hx G7.out.2.2.2)))
   have y0:w8.cell? ⟨B5,0,none⟩=some (.int .i64 k):=cH hx rfl
   have y1:w8.cell? ⟨B5,1,none⟩=some (.string ⟨#[]⟩):=cH hx rfl
   have y2:w8.cell? ⟨B5,2,none⟩=some (.int .i64 0):=cH hx rfl
   have y3:w8.cell? ⟨B5,3,none⟩=some (.slice none 0 0):=cH hx rfl
   have y4:w8.cell? ⟨B5,4,none⟩=some (.slice none 0 0):=cH hx rfl
   have y5:w8.cell? ⟨B5,5,none⟩=some (.slice none 0 0):=cH hx rfl
   have yf0:w8.frozen? ⟨B5,0,none⟩=false:=fH hx
   have yf1:w8.frozen? ⟨B5,1,none⟩=false:=fH hx
   have yf2:w8.frozen? ⟨B5,2,none⟩=false:=fH hx
   have yf3:w8.frozen? ⟨B5,3,none⟩=false:=fH hx
   have yf4:w8.frozen? ⟨B5,4,none⟩=false:=fH hx
   have yf5:w8.frozen? ⟨B5,5,none⟩=false:=fH hx
   clear hO1 hl1 hp hm hx
   go_wp2_with fail
   clear y0 yf0 y1 yf1 y2 yf2 y3 yf3 y4 yf4 y5 yf5
   have hm:Chalk.Mod (fun k=>k=B5) w8 (w8.setCell ⟨B5,2,none⟩ (.int .i64 n)):=(Chalk.Mod.refl (fun k=>k=B5) w8).setCell (p:=⟨B5,2,none⟩) (fun _=>rfl) _
   have hx:=box_store (i:=2) (.int .i64 n) G8.out.2.2.1
   simp only [ub1,ub2,ub3] at hx
   generalize w8.setCell ⟨B5,2,none⟩ (.int .i64 n)=w9 at hm hx ⊢
   have G9:=Lh (aI (G8.out.1.one hm G8.out.2.2.2.1) (aI (mod_one G8.out.2.1 hm G8.out.2.2.2.2) (aI hx G8.out.2.2.2)))
   clear hm hx
   refine (pbinds_any P r1 w0 w9 G9.out.1 (HGB.out w9 G9.out.2.1) HPP.out.1).mono ?_
   rintro e w10 hp
   cases hO2:pBinds 6 r1 with
   | bad m =>
    obtain ⟨rfl,hm⟩:=hp.fails hO2
    exact ⟨rfl,PFrm.bad (by rw [HRQ.out];simp only [Rs.bind,HO1.out,hO2]) (HWM.out w10 (G9.out.2.1.trans hm (fun _ _ h=>h)))⟩
   | ok bs r2 =>
    have HO2:=Lh hO2
    have hl2:=(pBinds_eat 5 _ _ _ hO2).len
    obtain ⟨z,rfl,hz,hp,hm⟩:=hp.gets hO2
    have hx:=heap_kept G9.out.2.2.1 hm (by have:=G9.out.2.2.2;omega)
    have G10:=Lh (aI hp (aI (G9.out.2.1.trans hm (fun _ _ h=>h)) (aI hx (aI hz G9.out.2.2.2))))
    have HL2:=Lh (show r2.length<l.length from by have:=HL1.out;omega)
    have y0:w10.cell? ⟨B5,0,none⟩=some (.int .i64 k):=cH hx rfl
    have y1:w10.cell? ⟨B5,1,none⟩=some (.string ⟨#[]⟩):=cH hx rfl
    have y2:w10.cell? ⟨B5,2,none⟩=some (.int .i64 n):=cH hx rfl
    have y3:w10.cell? ⟨B5,3,none⟩=some (.slice none 0 0):=cH hx rfl
    have y4:w10.cell? ⟨B5,4,none⟩=some (.slice none 0 0):=cH hx rfl
    have y5:w10.cell? ⟨B5,5,none⟩=some (.slice none 0 0):=cH hx rfl
    have yf0:w10.frozen? ⟨B5,0,none⟩=false:=fH hx
    have yf1:w10.frozen? ⟨B5,1,none⟩=false:=fH hx
    have yf2:w10.frozen? ⟨B5,2,none⟩=false:=fH hx
    have yf3:w10.frozen? ⟨B5,3,none⟩=false:=fH hx
    have yf4:w10.frozen? ⟨B5,4,none⟩=false:=fH hx
    have yf5:w10.frozen? ⟨B5,5,none⟩=false:=fH hx
    clear hO2 hl2 hz hp hm hx
    go_wp2_with fail
    clear y0 yf0 y1 yf1 y2 yf2 y3 yf3 y4 yf4 y5 yf5
    have hm:Chalk.Mod (fun k=>k=B5) w10 (w10.setCell ⟨B5,4,none⟩ (.slice z.a bs.length z.cap)):=(Chalk.Mod.refl (fun k=>k=B5) w10).setCell (p:=⟨B5,4,none⟩) (fun _=>rfl) _
    have hx:=box_store (i:=4) (.slice z.a bs.length z.cap) G10.out.2.2.1
    simp only [ub1,ub2,ub3] at hx
    generalize w10.setCell ⟨B5,4,none⟩ (.slice z.a bs.length z.cap)=w11 at hm hx ⊢
    have hlt5:B5<w9.heap.size:=(gS G9.out.2.2.1).1
    have G11:=Lh (aI (G10.out.1.one hm G10.out.2.2.2.2.1) (aI (mod_one G10.out.2.1 hm G10.out.2.2.2.2.2) (aI hx (aI (G10.out.2.2.2.1.modB hm (fun k hk=>by omega)) (aI hlt5 (aI G10.out.2.2.2.2 (aI G9.out.2.1.size G10.out.2.1.size)))))))
    clear hm hx hlt5
    refine (HU.out r2 HL2.out w11 G11.out.1 (HGB.out w11 G11.out.2.1)).mono ?_
    rintro e w12 hp
    cases hO3:parBrk r2 with
    | bad m =>
     obtain ⟨rfl,hm⟩:=hp.fails hO3
     exact ⟨rfl,PFrm.bad (by rw [HRQ.out];simp only [Rs.bind,HO1.out,HO2.out,hO3]) (HWM.out w12 (G11.out.2.1.trans hm (fun _ _ h=>h)))⟩
    | ok f r3 =>
     have HB:=Lh (show R=.ok (.mk k [] n [] bs [f]) r3 from by rw [HRQ.out];simp only [Rs.bind,HO1.out,HO2.out,hO3])
     obtain ⟨x,rfl,hxf,hp,hm⟩:=hp.gets hO3
     have hx:=heap_kept G11.out.2.2.1 hm (by have:=G11.out.2.2.2.2.2.1;omega)
     have G12:=Lh (aI hp (aI (G11.out.2.1.trans hm (fun _ _ h=>h)) (aI hx (aI (G11.out.2.2.2.1.modB hm (fun k hk=>by have:=G11.out.2.2.2.2.2.1;have:=G11.out.2.2.2.2.1;omega)) (aI hxf hm.size)))))
     clear hO3 hp hm hx hxf
     rename_i KK hKK
     dsimp only
     refine hKK _ _ ?_
     clear hKK KK
     refine wpList_step fun K hK=>?_
     rw [if_pos (by kernel_rfl)]
     go_simp
     refine hK _ _ ?_
     clear hK K
     try simp only [Act.put,ub1,ub2,ub3]
     have hb:Below w12.heap.size w12 (w12.alloc (.cells #[.int .i64 f.kind,.string ⟨f.name.toArray⟩,.int .i64 f.n,.slice x.t.a f.terms.length x.t.cap,.slice x.b.a f.binds.length x.b.cap,.slice x.l.a f.l.length x.l.cap] 28)):=below_new _ _
     have hrow:(w12.alloc (.cells #[.int .i64 f.kind,.string ⟨f.name.toArray⟩,.int .i64 f.n,.slice x.t.a f.terms.length x.t.cap,.slice x.b.a f.binds.length x.b.cap,.slice x.l.a f.l.length x.l.cap] 28)).heap[w12.heap.size]?=some (.cells #[.int .i64 f.kind,.string ⟨f.name.toArray⟩,.int .i64 f.n,.slice x.t.a f.terms.length x.t.cap,.slice x.b.a f.binds.length x.b.cap,.slice x.l.a f.l.length x.l.cap] 28 (0,0)):=heap_alloc_new _ _
     have hrz:=(gS hrow).1
     obtain ⟨BR,hBR⟩:∃ BR,BR=w12.heap.size:=⟨_,rfl⟩
     rw [<- hBR] at hrow hrz ⊢
     generalize w12.alloc (.cells #[.int .i64 f.kind,.string ⟨f.name.toArray⟩,.int .i64 f.n,.slice x.t.a f.terms.length x.t.cap,.slice x.b.a f.binds.length x.b.cap,.slice x.l.a f.l.length x.l.cap] 28)=w13 at hb hrow hrz ⊢
     have hx:=(hb.block _ (gS G12.out.2.2.1).1).trans G12.out.2.2.1
     have G13:=Lh (aI (G12.out.1.below hb) (aI (G12.out.2.1.trans (Chalk.Mod.of_below (S:=fun k=>k=P) hb) (fun _ _ h=>h)) (aI hx (aI (G12.out.2.2.2.1.modB (Chalk.Mod.of_below (S:=fun _=>False) hb) (fun _ h=>h.elim)) (aI (G12.out.2.2.2.2.1.modB (Chalk.Mod.of_below (S:=fun _=>False) hb) (fun _ h=>h.elim)) (aI hrow (aI hrz (aI hb.size hBR))))))))
     have y0:w13.cell? ⟨B5,0,none⟩=some (.int .i64 k):=cH hx rfl
     have y1:w13.cell? ⟨B5,1,none⟩=some (.string ⟨#[]⟩):=cH hx rfl
     have y2:w13.cell? ⟨B5,2,none⟩=some (.int .i64 n):=cH hx rfl
     have y3:w13.cell? ⟨B5,3,none⟩=some (.slice none 0 0):=cH hx rfl
     have y4:w13.cell? ⟨B5,4,none⟩=some (.slice z.a bs.length z.cap):=cH hx rfl
     have y5:w13.cell? ⟨B5,5,none⟩=some (.slice none 0 0):=cH hx rfl
     have yf0:w13.frozen? ⟨B5,0,none⟩=false:=fH hx
     have yf1:w13.frozen? ⟨B5,1,none⟩=false:=fH hx
     have yf2:w13.frozen? ⟨B5,2,none⟩=false:=fH hx
     have yf3:w13.frozen? ⟨B5,3,none⟩=false:=fH hx
     have yf4:w13.frozen? ⟨B5,4,none⟩=false:=fH hx
     have yf5:w13.frozen? ⟨B5,5,none⟩=false:=fH hx
     clear hb hrow hrz hBR hx
     refine wpList_step fun K hK=>?_
     rw [if_pos (by kernel_rfl)]
     go_simp
     refine hK _ _ ?_
     clear hK K
     try simp only [Act.put,ub1,ub2,ub3]
     refine wpList_step fun K hK=>?_
     rw [if_pos (by kernel_rfl)]
     go_simp
     refine hK _ _ ?_
     clear hK K
     try simp only [Act.put,ub1,ub2,ub3]
     clear y0 yf0 y1 yf1 y2 yf2 y3 yf3 y4 yf4 y5 yf5
     have hm:Chalk.Mod (fun k=>k=B5) w13 (w13.setCell ⟨B5,5,none⟩ (.slice (some ⟨BR,0,none⟩) 1 1)):=(Chalk.Mod.refl (fun k=>k=B5) w13).setCell (p:=⟨B5,5,none⟩) (fun _=>rfl) _
     have hx:=box_store (i:=5) (.slice (some ⟨BR,0,none⟩) 1 1) G13.out.2.2.1
     simp only [ub1,ub2,ub3] at hx
     generalize w13.setCell ⟨B5,5,none⟩ (.slice (some ⟨BR,0,none⟩) 1 1)=w14 at hm hx ⊢
     have hne:BR ≠ B5:=by have h1:=G13.out.2.2.2.2.2.2.2.2;have h2:=(gS G12.out.2.2.1).1;omega
     have hr1:=(hm.block BR G13.out.2.2.2.2.2.2.1 hne).trans G13.out.2.2.2.2.2.1
     have G14:=Lh (aI (G13.out.1.one hm G11.out.2.2.2.2.2.1.1) (aI (mod_one G13.out.2.1 hm G11.out.2.2.2.2.2.1.2) (aI (G13.out.2.2.2.1.modB hm (fun k hk=>by have:=G11.out.2.2.2.2.1;omega)) (aI (G13.out.2.2.2.2.1.modB hm (fun k hk=>by have:=(gS G11.out.2.2.1).1;omega)) (aI hr1 (gS hr1).1)))))
     have y0:w14.cell? ⟨B5,0,none⟩=some (.int .i64 k):=cH hx rfl
     have y1:w14.cell? ⟨B5,1,none⟩=some (.string ⟨#[]⟩):=cH hx rfl
     have y2:w14.cell? ⟨B5,2,none⟩=some (.int .i64 n):=cH hx rfl
     have y3:w14.cell? ⟨B5,3,none⟩=some (.slice none 0 0):=cH hx rfl
     have y4:w14.cell? ⟨B5,4,none⟩=some (.slice z.a bs.length z.cap):=cH hx rfl
     have y5:w14.cell? ⟨B5,5,none⟩=some (.slice (some ⟨BR,0,none⟩) 1 1):=cH hx rfl
     have yf0:w14.frozen? ⟨B5,0,none⟩=false:=fH hx
     have yf1:w14.frozen? ⟨B5,1,none⟩=false:=fH hx
     have yf2:w14.frozen? ⟨B5,2,none⟩=false:=fH hx
     have yf3:w14.frozen? ⟨B5,3,none⟩=false:=fH hx
     have yf4:w14.frozen? ⟨B5,4,none⟩=false:=fH hx
     have yf5:w14.frozen? ⟨B5,5,none⟩=false:=fH hx
     clear hm hx hne hr1
     obtain ⟨x0,x1,x2,x3,x4,x5,fz0,fz1,fz2,fz3,fz4,fz5,hrl⟩:=HE.out w14 G14.out.2.1
     go_wp2_with fail
     refine bodyPost_ret (v:=.agg #[.int .i64 k,.string ⟨#[]⟩,.int .i64 n,.slice none 0 0,.slice z.a bs.length z.cap,.slice (some ⟨BR,0,none⟩) 1 1]) (by simp [results,Tryz.results164,go_sem, *]) rfl ?_
     rw [HRB.out]
     have hz0:=H0.out.2.2.2.2.2.1
     have hz1:=G11.out.2.2.2.2.2.2.1
     have hz2:=G11.out.2.2.2.2.2.2.2
     have hz3:=G12.out.2.2.2.2.2
     have hz4:=G13.out.2.2.2.2.2.2.2.2
     have hz5:=G11.out.2.1.size
     exact PFrm.last (f:=.mk k [] n [] bs [f]) (lo:=W0.heap.size) (x:=⟨noS,z,⟨some ⟨BR,0,none⟩,BR,0,1⟩⟩) HB.out (HWM.out w14 G14.out.2.1) H0.out.2.2.2.1 (by omega) (node_one G14.out.2.2.2.2.1 ⟨by omega,G14.out.2.2.2.2.2⟩ (G14.out.2.2.2.1.lower (by omega)) (G14.out.2.2.1.mono (fun k hk=>⟨by have:=hk.1;omega,hk.2⟩)) ⟨by have:=HKR.out.1;omega,by have:=HKR.out.2;omega⟩ HNN.out) G14.out.1
 ·have HRQ:=Lh (show R=(pBinds 6 l.tail).bind fun b l=>(parBrk l).bind fun f l=>.ok (.mk k [] 0 [] b [f]) l from by rw [hR,parQuant,if_neg h16];rfl)
  have HL1:=Lh HL0.out
  clear hR
  go_enter Tryz.func164,Tryz.ntmps164
  go_wp2_with fail
  rw [<- HW0.out]
  rw [<- HRB.out]
  refine (HT1.out _ G0.out.1).mono ?_
  rintro e w1 ⟨rfl,hb⟩
  have G1:=Lh (aI (G0.out.1.below hb) (G0.out.2.trans (Chalk.Mod.of_below (S:=fun k=>k=P) hb) (fun _ _ h=>h)))
  clear hb
  go_wp2_with fail
  refine (HT2.out _ G1.out.1).mono ?_
  rintro e w2 ⟨rfl,hb⟩
  have G2:=Lh (aI (G1.out.1.below hb) (G1.out.2.trans (Chalk.Mod.of_below (S:=fun k=>k=P) hb) (fun _ _ h=>h)))
  clear hb
  go_wp2_with fail
  refine (HT3.out _ G2.out.1).mono ?_
  rintro e w3 ⟨rfl,hb⟩
  have G3:=Lh (aI (G2.out.1.below hb) (G2.out.2.trans (Chalk.Mod.of_below (S:=fun k=>k=P) hb) (fun _ _ h=>h)))
  clear hb
  go_wp2_with fail
  refine (HT4.out _ G3.out.1).mono ?_
  rintro e w4 ⟨rfl,hb⟩
  have G4:=Lh (aI (G3.out.1.below hb) (G3.out.2.trans (Chalk.Mod.of_below (S:=fun k=>k=P) hb) (fun _ _ h=>h)))
  clear hb
  go_wp2_with fail
  refine (alls_any w4).mono ?_
  rintro e w5 ⟨rfl,rfl⟩
  have hb:Below w4.heap.size w4 (w4.alloc (.map (kwEs 0 kwAll).toArray 4)):=below_new _ _
  have hk:KwAt (w4.alloc (.map (kwEs 0 kwAll).toArray 4)) w4.heap.size kwAll:=heap_alloc_new _ _
  generalize w4.alloc (.map (kwEs 0 kwAll).toArray 4)=w5 at hb hk ⊢
  have G5:=Lh (aI (G4.out.1.below hb) (G4.out.2.trans (Chalk.Mod.of_below (S:=fun k=>k=P) hb) (fun _ _ h=>h)))
  have KW:=Lh hk
  clear hb hk
  go_wp2_with fail
  refine (HO.out _ w5 G5.out.1 KW.out).mono ?_
  rintro e w6 ⟨rfl,hp,hm⟩
  obtain ⟨B5,hB5⟩:∃ B5,B5=w6.heap.size:=⟨_,rfl⟩
  obtain ⟨w7,hw7⟩:∃ w7,w7=w6.alloc (.cells #[.int .i64 k,.string ⟨#[]⟩,.int .i64 0,.slice none 0 0,.slice none 0 0,.slice none 0 0] 28):=⟨_,rfl⟩
  have hb7:Below w6.heap.size w6 w7:=by rw [hw7];exact below_new _ _
  have hx7:w7.heap[B5]?=some (.cells #[.int .i64 k,.string ⟨#[]⟩,.int .i64 0,.slice none 0 0,.slice none 0 0,.slice none 0 0] 28 (0,0)):=by rw [hw7,hB5];exact heap_alloc_new _ _
  have hpl:=hp.lt
  have h06:=(G5.out.2.trans hm (fun _ _ h=>h)).size
  have G7:=Lh (aI (hp.below hb7) (aI (G5.out.2.trans (hm.trans (Chalk.Mod.of_below (S:=fun k=>k=P) hb7) (fun _ _ h=>h)) (fun _ _ h=>h)) (aI hx7 (show P<B5/\W0.heap.size<=B5 from ⟨by omega,by omega⟩))))
  have HW7:=Lh hw7
  have HB5:=Lh hB5
  clear hp hm hpl h06 hb7 hx7 hw7 hB5
  go_wp2_with fail
  rw [<- HW7.out,<- HB5.out]
  refine (pbinds_any P l.tail w0 w7 G7.out.1 (HGB.out w7 G7.out.2.1) HPP.out.1).mono ?_
  rintro e w8 hp
  cases hO2:pBinds 6 l.tail with
  | bad m =>
   obtain ⟨rfl,hm⟩:=hp.fails hO2
   exact ⟨rfl,PFrm.bad (by rw [HRQ.out];simp only [Rs.bind,hO2]) (HWM.out w8 (G7.out.2.1.trans hm (fun _ _ h=>h)))⟩
  | ok bs r2 =>
   have HO2:=Lh hO2
   have hl2:=(pBinds_eat 5 _ _ _ hO2).len
   obtain ⟨z,rfl,hz,hp,hm⟩:=hp.gets hO2
   have hx:=heap_kept G7.out.2.2.1 hm (by have:=G7.out.2.2.2;omega)
   have G8:=Lh (aI hp (aI (G7.out.2.1.trans hm (fun _ _ h=>h)) (aI hx (aI hz G7.out.2.2.2))))
   have HL2:=Lh (show r2.length<l.length from by have:=HL1.out;omega)
   have y0:w8.cell? ⟨B5,0,none⟩=some (.int .i64 k):=cH hx rfl
   have y1:w8.cell? ⟨B5,1,none⟩=some (.string ⟨#[]⟩):=cH hx rfl
   have y2:w8.cell? ⟨B5,2,none⟩=some (.int .i64 0):=cH hx rfl
   have y3:w8.cell? ⟨B5,3,none⟩=some (.slice none 0 0):=cH hx rfl
   have y4:w8.cell? ⟨B5,4,none⟩=some (.slice none 0 0):=cH hx rfl
   have y5:w8.cell? ⟨B5,5,none⟩=some (.slice none 0 0):=cH hx rfl
   have yf0:w8.frozen? ⟨B5,0,none⟩=false:=fH hx
   have yf1:w8.frozen? ⟨B5,1,none⟩=false:=fH hx
   have yf2:w8.frozen? ⟨B5,2,none⟩=false:=fH hx
   have yf3:w8.frozen? ⟨B5,3,none⟩=false:=fH hx
   have yf4:w8.frozen? ⟨B5,4,none⟩=false:=fH hx
   have yf5:w8.frozen? ⟨B5,5,none⟩=false:=fH hx
   clear hO2 hl2 hz hp hm hx
   go_wp2_with fail
   clear y0 yf0 y1 yf1 y2 yf2 y3 yf3 y4 yf4 y5 yf5
   have hm:Chalk.Mod (fun k=>k=B5) w8 (w8.setCell ⟨B5,4,none⟩ (.slice z.a bs.length z.cap)):=(Chalk.Mod.refl (fun k=>k=B5) w8).setCell (p:=⟨B5,4,none⟩) (fun _=>rfl) _
   have hx:=box_store (i:=4) (.slice z.a bs.length z.cap) G8.out.2.2.1
   simp only [ub1,ub2,ub3] at hx
   generalize w8.setCell ⟨B5,4,none⟩ (.slice z.a bs.length z.cap)=w9 at hm hx ⊢
   have hlt5:B5<w7.heap.size:=(gS G7.out.2.2.1).1
   have G9:=Lh (aI (G8.out.1.one hm G8.out.2.2.2.2.1) (aI (mod_one G8.out.2.1 hm G8.out.2.2.2.2.2) (aI hx (aI (G8.out.2.2.2.1.modB hm (fun k hk=>by omega)) (aI hlt5 (aI G8.out.2.2.2.2 (aI G7.out.2.1.size G8.out.2.1.size)))))))
   clear hm hx hlt5
   refine (HU.out r2 HL2.out w9 G9.out.1 (HGB.out w9 G9.out.2.1)).mono ?_
   rintro e w10 hp
   cases hO3:parBrk r2 with
   | bad m =>
    obtain ⟨rfl,hm⟩:=hp.fails hO3
    exact ⟨rfl,PFrm.bad (by rw [HRQ.out];simp only [Rs.bind,HO2.out,hO3]) (HWM.out w10 (G9.out.2.1.trans hm (fun _ _ h=>h)))⟩
   | ok f r3 =>
    have HB:=Lh (show R=.ok (.mk k [] 0 [] bs [f]) r3 from by rw [HRQ.out];simp only [Rs.bind,HO2.out,hO3])
    obtain ⟨x,rfl,hxf,hp,hm⟩:=hp.gets hO3
    have hx:=heap_kept G9.out.2.2.1 hm (by have:=G9.out.2.2.2.2.2.1;omega)
    have G10:=Lh (aI hp (aI (G9.out.2.1.trans hm (fun _ _ h=>h)) (aI hx (aI (G9.out.2.2.2.1.modB hm (fun k hk=>by have:=G9.out.2.2.2.2.2.1;have:=G9.out.2.2.2.2.1;omega)) (aI hxf hm.size)))))
    clear hO3 hp hm hx hxf
    rename_i KK hKK
    dsimp only
    refine hKK _ _ ?_
    clear hKK KK
    refine wpList_step fun K hK=>?_
    rw [if_pos (by kernel_rfl)]
    go_simp
    refine hK _ _ ?_
    clear hK K
    try simp only [Act.put,ub1,ub2,ub3]
    have hb:Below w10.heap.size w10 (w10.alloc (.cells #[.int .i64 f.kind,.string ⟨f.name.toArray⟩,.int .i64 f.n,.slice x.t.a f.terms.length x.t.cap,.slice x.b.a f.binds.length x.b.cap,.slice x.l.a f.l.length x.l.cap] 28)):=below_new _ _
    have hrow:(w10.alloc (.cells #[.int .i64 f.kind,.string ⟨f.name.toArray⟩,.int .i64 f.n,.slice x.t.a f.terms.length x.t.cap,.slice x.b.a f.binds.length x.b.cap,.slice x.l.a f.l.length x.l.cap] 28)).heap[w10.heap.size]?=some (.cells #[.int .i64 f.kind,.string ⟨f.name.toArray⟩,.int .i64 f.n,.slice x.t.a f.terms.length x.t.cap,.slice x.b.a f.binds.length x.b.cap,.slice x.l.a f.l.length x.l.cap] 28 (0,0)):=heap_alloc_new _ _
    have hrz:=(gS hrow).1
    obtain ⟨BR,hBR⟩:∃ BR,BR=w10.heap.size:=⟨_,rfl⟩
    rw [<- hBR] at hrow hrz ⊢
    generalize w10.alloc (.cells #[.int .i64 f.kind,.string ⟨f.name.toArray⟩,.int .i64 f.n,.slice x.t.a f.terms.length x.t.cap,.slice x.b.a f.binds.length x.b.cap,.slice x.l.a f.l.length x.l.cap] 28)=w11 at hb hrow hrz ⊢
    have hx:=(hb.block _ (gS G10.out.2.2.1).1).trans G10.out.2.2.1
    have G11:=Lh (aI (G10.out.1.below hb) (aI (G10.out.2.1.trans (Chalk.Mod.of_below (S:=fun k=>k=P) hb) (fun _ _ h=>h)) (aI hx (aI (G10.out.2.2.2.1.modB (Chalk.Mod.of_below (S:=fun _=>False) hb) (fun _ h=>h.elim)) (aI (G10.out.2.2.2.2.1.modB (Chalk.Mod.of_below (S:=fun _=>False) hb) (fun _ h=>h.elim)) (aI hrow (aI hrz (aI hb.size hBR))))))))
    have y0:w11.cell? ⟨B5,0,none⟩=some (.int .i64 k):=cH hx rfl
    have y1:w11.cell? ⟨B5,1,none⟩=some (.string ⟨#[]⟩):=cH hx rfl
    have y2:w11.cell? ⟨B5,2,none⟩=some (.int .i64 0):=cH hx rfl
    have y3:w11.cell? ⟨B5,3,none⟩=some (.slice none 0 0):=cH hx rfl
    have y4:w11.cell? ⟨B5,4,none⟩=some (.slice z.a bs.length z.cap):=cH hx rfl
    have y5:w11.cell? ⟨B5,5,none⟩=some (.slice none 0 0):=cH hx rfl
    have yf0:w11.frozen? ⟨B5,0,none⟩=false:=fH hx
    have yf1:w11.frozen? ⟨B5,1,none⟩=false:=fH hx
    have yf2:w11.frozen? ⟨B5,2,none⟩=false:=fH hx
    have yf3:w11.frozen? ⟨B5,3,none⟩=false:=fH hx
    have yf4:w11.frozen? ⟨B5,4,none⟩=false:=fH hx
    have yf5:w11.frozen? ⟨B5,5,none⟩=false:=fH hx
    clear hb hrow hrz hBR hx
    refine wpList_step fun K hK=>?_
    rw [if_pos (by kernel_rfl)]
    go_simp
    refine hK _ _ ?_
    clear hK K
    try simp only [Act.put,ub1,ub2,ub3]
    refine wpList_step fun K hK=>?_
    rw [if_pos (by kernel_rfl)]
    go_simp
    refine hK _ _ ?_
    clear hK K
    try simp only [Act.put,ub1,ub2,ub3]
    clear y0 yf0 y1 yf1 y2 yf2 y3 yf3 y4 yf4 y5 yf5
    have hm:Chalk.Mod (fun k=>k=B5) w11 (w11.setCell ⟨B5,5,none⟩ (.slice (some ⟨BR,0,none⟩) 1 1)):=(Chalk.Mod.refl (fun k=>k=B5) w11).setCell (p:=⟨B5,5,none⟩) (fun _=>rfl) _
    have hx:=box_store (i:=5) (.slice (some ⟨BR,0,none⟩) 1 1) G11.out.2.2.1
    simp only [ub1,ub2,ub3] at hx
    generalize w11.setCell ⟨B5,5,none⟩ (.slice (some ⟨BR,0,none⟩) 1 1)=w12 at hm hx ⊢
    have hne:BR ≠ B5:=by have h1:=G11.out.2.2.2.2.2.2.2.2;have h2:=(gS G10.out.2.2.1).1;omega
    have hr1:=(hm.block BR G11.out.2.2.2.2.2.2.1 hne).trans G11.out.2.2.2.2.2.1
    have G12:=Lh (aI (G11.out.1.one hm G9.out.2.2.2.2.2.1.1) (aI (mod_one G11.out.2.1 hm G9.out.2.2.2.2.2.1.2) (aI (G11.out.2.2.2.1.modB hm (fun k hk=>by have:=G9.out.2.2.2.2.1;omega)) (aI (G11.out.2.2.2.2.1.modB hm (fun k hk=>by have:=(gS G9.out.2.2.1).1;omega)) (aI hr1 (gS hr1).1)))))
    have y0:w12.cell? ⟨B5,0,none⟩=some (.int .i64 k):=cH hx rfl
    have y1:w12.cell? ⟨B5,1,none⟩=some (.string ⟨#[]⟩):=cH hx rfl
    have y2:w12.cell? ⟨B5,2,none⟩=some (.int .i64 0):=cH hx rfl
    have y3:w12.cell? ⟨B5,3,none⟩=some (.slice none 0 0):=cH hx rfl
    have y4:w12.cell? ⟨B5,4,none⟩=some (.slice z.a bs.length z.cap):=cH hx rfl
    have y5:w12.cell? ⟨B5,5,none⟩=some (.slice (some ⟨BR,0,none⟩) 1 1):=cH hx rfl
    have yf0:w12.frozen? ⟨B5,0,none⟩=false:=fH hx
    have yf1:w12.frozen? ⟨B5,1,none⟩=false:=fH hx
    have yf2:w12.frozen? ⟨B5,2,none⟩=false:=fH hx
    have yf3:w12.frozen? ⟨B5,3,none⟩=false:=fH hx
    have yf4:w12.frozen? ⟨B5,4,none⟩=false:=fH hx
    have yf5:w12.frozen? ⟨B5,5,none⟩=false:=fH hx
    clear hm hx hne hr1
    obtain ⟨x0,x1,x2,x3,x4,x5,fz0,fz1,fz2,fz3,fz4,fz5,hrl⟩:=HE.out w12 G12.out.2.1
    go_wp2_with fail
    refine bodyPost_ret (v:=.agg #[.int .i64 k,.string ⟨#[]⟩,.int .i64 0,.slice none 0 0,.slice z.a bs.length z.cap,.slice (some ⟨BR,0,none⟩) 1 1]) (by simp [results,Tryz.results164,go_sem, *]) rfl ?_
    rw [HRB.out]
    have hz0:=H0.out.2.2.2.2.2.1
    have hz1:=G9.out.2.2.2.2.2.2.1
    have hz2:=G9.out.2.2.2.2.2.2.2
    have hz3:=G10.out.2.2.2.2.2
    have hz4:=G11.out.2.2.2.2.2.2.2.2
    have hz5:=G9.out.2.1.size
    exact PFrm.last (f:=.mk k [] 0 [] bs [f]) (lo:=W0.heap.size) (x:=⟨noS,z,⟨some ⟨BR,0,none⟩,BR,0,1⟩⟩) HB.out (HWM.out w12 G12.out.2.1) H0.out.2.2.2.1 (by omega) (node_one G12.out.2.2.2.2.1 ⟨by omega,G12.out.2.2.2.2.2⟩ (G12.out.2.2.2.1.lower (by omega)) (G12.out.2.2.1.mono (fun k hk=>⟨by have:=hk.1;omega,hk.2⟩)) ⟨by have:=HKR.out.1;omega,by have:=HKR.out.2;omega⟩ (by decide)) G12.out.1
end Go.Proofs.YtpmalchlecnjbaaGreatDoor
/- The parser of layer syntax: un, atoms. (written by tools/gen_ppk.py) -/
namespace Go.Chalk
open Go.RowKit
def Hold (p:Prop):Prop:=p
theorem wpList_row {P:Program} {ops:Array Oper} {Q:Exit->Act->World->Prop} {a:Act} {w:World} {rest:List Oper} {d:Option Nat} {ty:TypeId} {n:Nat} {es:Array (Nat×Operand)} {tt:TypeId} {pos:String} {aft:Array Edge} {gd:Option (Nat×Bool)}
  (h:Hold (wpList P ops Q (⟨d,.buildSlice ty n es,tt,pos,aft,gd⟩ :: rest) a w)):wpList P ops Q (⟨d,.buildSlice ty n es,tt,pos,aft,gd⟩ :: rest) a w:=h
end Go.Chalk
namespace Go.Proofs.YtpmalchlecnjbaaGreatDoor
open Go.RowKit Go.Chalk
attribute [local go_sem] Oper.semAt_some
theorem pun_atom (P:Nat) (w0:World) (hP:w0.heap.size<=P) (l:List Tok) (h1:isT [33] l=false) (h2:isT [40] l=false) (h3:isT [116,114,117,101] l=false) (h4:isT [102,97,108,115,101] l=false) (h5:kwT kwAll l=none) (k:Int) (hk:kwT kwAtom l=some k) (w:World) (h:PAt w P l) (hg:GB w0 w):Calls Tryz.prog 164 #[.pointer (some ⟨P,0,none⟩)] w (PFrm w P (pAtom k l.tail)):=by
 obtain ⟨R,hR⟩:∃ R:Rs Frm,R=pAtom k l.tail:=⟨_,rfl⟩
 rw [<- hR]
 obtain ⟨RB,hRB⟩:∃ RB,RB=w.heap.size:=⟨_,rfl⟩
 obtain ⟨W0,hW0⟩:∃ W0,W0=w.alloc (.cells #[.int .i64 0,.string ⟨#[]⟩,.int .i64 0,.slice none 0 0,.slice none 0 0,.slice none 0 0] 28):=⟨_,rfl⟩
 have hb0:Below w.heap.size w W0:=by rw [hW0];exact below_new _ _
 have hbx:W0.heap[w.heap.size]?=some (.cells #[.int .i64 0,.string ⟨#[]⟩,.int .i64 0,.slice none 0 0,.slice none 0 0,.slice none 0 0] 28 (0,0)):=by rw [hW0];exact heap_alloc_new _ _
 have hPl:=h.lt
 have HZ:=Lh (fun (W':World) (hW:Chalk.Mod (fun k=>k=P) W0 W')=>(heap_kept hbx hW (by omega):W'.heap[w.heap.size]?=some (.cells #[.int .i64 0,.string ⟨#[]⟩,.int .i64 0,.slice none 0 0,.slice none 0 0,.slice none 0 0] 28 (0,0))))
 have HE:=Lh (fun (W':World) (hW:Chalk.Mod (fun k=>k=P) W0 W')=>(show W'.cell? ⟨RB,0,none⟩=some (.int .i64 0)/\W'.cell? ⟨RB,1,none⟩=some (.string ⟨#[]⟩)/\W'.cell? ⟨RB,2,none⟩=some (.int .i64 0)/\W'.cell? ⟨RB,3,none⟩=some (.slice none 0 0)/\W'.cell? ⟨RB,4,none⟩=some (.slice none 0 0)/\W'.cell? ⟨RB,5,none⟩=some (.slice none 0 0)/\W'.frozen? ⟨RB,0,none⟩=false/\W'.frozen? ⟨RB,1,none⟩=false/\W'.frozen? ⟨RB,2,none⟩=false/\W'.frozen? ⟨RB,3,none⟩=false/\W'.frozen? ⟨RB,4,none⟩=false/\W'.frozen? ⟨RB,5,none⟩=false/\RB<W'.heap.size from by
  have e0:=HZ.out W' hW
  rw [<- hRB] at e0
  exact ⟨cH e0 rfl,cH e0 rfl,cH e0 rfl,cH e0 rfl,cH e0 rfl,cH e0 rfl,fH e0,fH e0,fH e0,fH e0,fH e0,fH e0,(gS e0).1⟩))
 have hs0:W0.heap.size=w.heap.size+1:=by rw [hW0];simp
 have H0:=Lh (aI (h.below hb0) (aI (Chalk.Mod.refl (fun k=>k=P) W0) (aI (hg.below hb0) (aI hPl (aI (Chalk.Mod.of_below (S:=fun k=>k=P) hb0) (aI hs0 hP))))))
 have HW0:=Lh hW0
 have HRB:=Lh hRB
 have HGB:=Lh (fun (W:World) (hm:Chalk.Mod (fun k=>k=P) W0 W)=>(hg.below hb0).mod hP hm)
 have HWM:=Lh (fun (W:World) (hm:Chalk.Mod (fun k=>k=P) W0 W)=>(Chalk.Mod.of_below (S:=fun k=>k=P) hb0).trans hm (fun _ _ h=>h))
 have G0:=Lh (aI H0.out.1 H0.out.2.1)
 have HT1:=Lh (fun (W:World) (hp:PAt W P l)=>ptook_no P [33] l W hp h1)
 have HT2:=Lh (fun (W:World) (hp:PAt W P l)=>pis_l P [40] l false h2 W hp)
 have HT3:=Lh (fun (W:World) (hp:PAt W P l)=>ptook_no P [116,114,117,101] l W hp h3)
 have HT4:=Lh (fun (W:World) (hp:PAt W P l)=>ptook_no P [102,97,108,115,101] l W hp h4)
 have HO5:=Lh (fun (bm:Nat) (W:World) (hp:PAt W P l) (hm:KwAt W bm kwAll)=>pone_no P bm kwAll l W hp hm h5)
 have HO:=Lh (fun (bm:Nat) (W:World) (hp:PAt W P l) (hm:KwAt W bm kwAtom)=>pone_yes P bm kwAtom l k W hp hm hk)
 have HKR:=Lh (kwT_range (by decide) hk)
 have HPP:=Lh (aI hP hPl)
 clear h hg hP hb0 hbx hs0 hW0 h1 h2 h3 h4 h5 hk hRB
 have HRQ:=Lh (show R=(pWant [40] l.tail).bind fun _ l=>(pName l).bind fun a l=>(pWant [44] l).bind fun _ l=>(pName l).bind fun b l=>(pWant [41] l).bind fun _ l=>.ok (.mk k [] 0 [⟨2,a,0⟩,⟨2,b,0⟩] [] []) l from by rw [hR,pAtom])
 clear hR
 go_enter Tryz.func164,Tryz.ntmps164
 go_wp2_with fail
 rw [<- HW0.out]
 rw [<- HRB.out]
 refine (HT1.out _ G0.out.1).mono ?_
 rintro e w1 ⟨rfl,hb⟩
 have G1:=Lh (aI (G0.out.1.below hb) (G0.out.2.trans (Chalk.Mod.of_below (S:=fun k=>k=P) hb) (fun _ _ h=>h)))
 clear hb
 go_wp2_with fail
 refine (HT2.out _ G1.out.1).mono ?_
 rintro e w2 ⟨rfl,hb⟩
 have G2:=Lh (aI (G1.out.1.below hb) (G1.out.2.trans (Chalk.Mod.of_below (S:=fun k=>k=P) hb) (fun _ _ h=>h)))
 clear hb
 go_wp2_with fail
 refine (HT3.out _ G2.out.1).mono ?_
 rintro e w3 ⟨rfl,hb⟩
 have G3:=Lh (aI (G2.out.1.below hb) (G2.out.2.trans (Chalk.Mod.of_below (S:=fun k=>k=P) hb) (fun _ _ h=>h)))
 clear hb
 go_wp2_with fail
 refine (HT4.out _ G3.out.1).mono ?_
 rintro e w4 ⟨rfl,hb⟩
 have G4:=Lh (aI (G3.out.1.below hb) (G3.out.2.trans (Chalk.Mod.of_below (S:=fun k=>k=P) hb) (fun _ _ h=>h)))
 clear hb
 go_wp2_with fail
 refine (alls_any w4).mono ?_
 rintro e w5 ⟨rfl,rfl⟩
 have hb:Below w4.heap.size w4 (w4.alloc (.map (kwEs 0 kwAll).toArray 4)):=below_new _ _
 have hk:KwAt (w4.alloc (.map (kwEs 0 kwAll).toArray 4)) w4.heap.size kwAll:=heap_alloc_new _ _
 generalize w4.alloc (.map (kwEs 0 kwAll).toArray 4)=w5 at hb hk ⊢
 have G5:=Lh (aI (G4.out.1.below hb) (G4.out.2.trans (Chalk.Mod.of_below (S:=fun k=>k=P) hb) (fun _ _ h=>h)))
 have KW:=Lh hk
 clear hb hk
 go_wp2_with fail
 refine (HO5.out _ w5 G5.out.1 KW.out).mono ?_
 rintro e w6 ⟨rfl,hb⟩
 have G6:=Lh (aI (G5.out.1.below hb) (G5.out.2.trans (Chalk.Mod.of_below (S:=fun k=>k=P) hb) (fun _ _ h=>h)))
 clear hb KW
 go_wp2_with fail
 refine (atoms_any w6).mono ?_
 rintro e w7 ⟨rfl,rfl⟩
 have hb:Below w6.heap.size w6 (w6.alloc (.map (kwEs 0 kwAtom).toArray 6)):=below_new _ _
 have hk:KwAt (w6.alloc (.map (kwEs 0 kwAtom).toArray 6)) w6.heap.size kwAtom:=heap_alloc_new _ _
 generalize w6.alloc (.map (kwEs 0 kwAtom).toArray 6)=w7 at hb hk ⊢
 have G7:=Lh (aI (G6.out.1.below hb) (G6.out.2.trans (Chalk.Mod.of_below (S:=fun k=>k=P) hb) (fun _ _ h=>h)))
 have KW:=Lh hk
 clear hb hk
 go_wp2_with fail
 refine (HO.out _ w7 G7.out.1 KW.out).mono ?_
 rintro e w8 ⟨rfl,hp,hm⟩
 have G8:=Lh (aI hp (aI (G7.out.2.trans hm (fun _ _ h=>h)) hm.size))
 clear hp hm
 go_wp2_with fail
 refine (pwant_u P [40] l.tail w8 G8.out.1).mono ?_
 rintro e w9 hp
 cases hO1:pWant [40] l.tail with
 | bad m =>
  obtain ⟨rfl,hm⟩:=hp.fails hO1
  exact ⟨rfl,PFrm.bad (by rw [HRQ.out];simp only [Rs.bind,hO1]) (HWM.out w9 (G8.out.2.1.trans hm (fun _ _ h=>h)))⟩
 | ok u1 r1 =>
  have HO1:=Lh hO1
  obtain ⟨rfl,hp,hm⟩:=hp.gets hO1
  have G9:=Lh (aI hp (aI (G8.out.2.1.trans hm (fun _ _ h=>h)) hm.size))
  clear hO1 hp hm
  go_wp2_with fail
  refine (pname_u P r1 w9 G9.out.1 (HGB.out w9 G9.out.2.1).gs.gat).mono ?_
  rintro e w10 hp
  cases hO2:pName r1 with
  | bad m =>
   obtain ⟨rfl,hm⟩:=hp.fails hO2
   exact ⟨rfl,PFrm.bad (by rw [HRQ.out];simp only [Rs.bind,HO1.out,hO2]) (HWM.out w10 (G9.out.2.1.trans hm (fun _ _ h=>h)))⟩
  | ok na r2 =>
   have HO2:=Lh hO2
   have HNA:=Lh (pName_len hO2 G9.out.1.2.1)
   obtain ⟨rfl,hp,hm⟩:=hp.gets hO2
   have G10:=Lh (aI hp (aI (G9.out.2.1.trans hm (fun _ _ h=>h)) hm.size))
   clear hO2 hp hm
   obtain ⟨B8,hB8⟩:∃ B8,B8=w10.heap.size:=⟨_,rfl⟩
   obtain ⟨w11,hw11⟩:∃ w11,w11=w10.alloc (.cells #[.int .i64 2,.string ⟨na.toArray⟩,.int .i64 0] 61):=⟨_,rfl⟩
   have hb:Below w10.heap.size w10 w11:=by rw [hw11];exact below_new _ _
   have hx:w11.heap[B8]?=some (.cells #[.int .i64 2,.string ⟨na.toArray⟩,.int .i64 0] 61 (0,0)):=by rw [hw11,hB8];exact heap_alloc_new _ _
   have HBP0:Hid (P<B8/\W0.heap.size<=B8):=Lh ⟨by have:=G10.out.1.lt;omega,by have:=G10.out.2.1.size;omega⟩
   have G11:=Lh (aI (G10.out.1.below hb) (aI (G10.out.2.1.trans (Chalk.Mod.of_below (S:=fun k=>k=P) hb) (fun _ _ h=>h)) (aI hx hb.size)))
   have HW11:=Lh hw11
   have HB8:=Lh hB8
   clear hb hx hw11 hB8
   go_wp2_with fail
   rw [<- HW11.out,<- HB8.out]
   refine (pwant_u P [44] r2 w11 G11.out.1).mono ?_
   rintro e w12 hp
   cases hO3:pWant [44] r2 with
   | bad m =>
    obtain ⟨rfl,hm⟩:=hp.fails hO3
    exact ⟨rfl,PFrm.bad (by rw [HRQ.out];simp only [Rs.bind,HO1.out,HO2.out,hO3]) (HWM.out w12 (G11.out.2.1.trans hm (fun _ _ h=>h)))⟩
   | ok u2 r3 =>
    have HO3:=Lh hO3
    obtain ⟨rfl,hp,hm⟩:=hp.gets hO3
    have G12:=Lh (aI hp (aI (G11.out.2.1.trans hm (fun _ _ h=>h)) (aI (heap_kept G11.out.2.2.1 hm (by have:=HBP0.out;omega)) hm.size)))
    clear hO3 hp hm
    go_wp2_with fail
    refine (pname_u P r3 w12 G12.out.1 (HGB.out w12 G12.out.2.1).gs.gat).mono ?_
    rintro e w13 hp
    cases hO4:pName r3 with
    | bad m =>
     obtain ⟨rfl,hm⟩:=hp.fails hO4
     exact ⟨rfl,PFrm.bad (by rw [HRQ.out];simp only [Rs.bind,HO1.out,HO2.out,HO3.out,hO4]) (HWM.out w13 (G12.out.2.1.trans hm (fun _ _ h=>h)))⟩
    | ok nb r4 =>
     have HO4:=Lh hO4
     have HNB:=Lh (pName_len hO4 G12.out.1.2.1)
     obtain ⟨rfl,hp,hm⟩:=hp.gets hO4
     have G13:=Lh (aI hp (aI (G12.out.2.1.trans hm (fun _ _ h=>h)) (aI (heap_kept G12.out.2.2.1 hm (by have:=HBP0.out;omega)) hm.size)))
     clear hO4 hp hm
     obtain ⟨B9,hB9⟩:∃ B9,B9=w13.heap.size:=⟨_,rfl⟩
     obtain ⟨w14,hw14⟩:∃ w14,w14=w13.alloc (.cells #[.int .i64 2,.string ⟨nb.toArray⟩,.int .i64 0] 61):=⟨_,rfl⟩
     have hb:Below w13.heap.size w13 w14:=by rw [hw14];exact below_new _ _
     have hx:w14.heap[B9]?=some (.cells #[.int .i64 2,.string ⟨nb.toArray⟩,.int .i64 0] 61 (0,0)):=by rw [hw14,hB9];exact heap_alloc_new _ _
     have HBP1:Hid (P<B9/\W0.heap.size<=B9):=Lh ⟨by have:=G13.out.1.lt;omega,by have:=G13.out.2.1.size;omega⟩
     have G14:=Lh (aI (G13.out.1.below hb) (aI (G13.out.2.1.trans (Chalk.Mod.of_below (S:=fun k=>k=P) hb) (fun _ _ h=>h)) (aI ((hb.block _ (gS G13.out.2.2.1).1).trans G13.out.2.2.1) (aI hx hb.size))))
     have HW14:=Lh hw14
     have HB9:=Lh hB9
     clear hb hx hw14 hB9
     go_wp2_with fail
     rw [<- HW14.out,<- HB9.out]
     refine (pwant_u P [41] r4 w14 G14.out.1).mono ?_
     rintro e w15 hp
     cases hO5:pWant [41] r4 with
     | bad m =>
      obtain ⟨rfl,hm⟩:=hp.fails hO5
      exact ⟨rfl,PFrm.bad (by rw [HRQ.out];simp only [Rs.bind,HO1.out,HO2.out,HO3.out,HO4.out,hO5]) (HWM.out w15 (G14.out.2.1.trans hm (fun _ _ h=>h)))⟩
     | ok u3 r5 =>
      have HO5:=Lh hO5
      obtain ⟨rfl,hp,hm⟩:=hp.gets hO5
      have G15:=Lh (aI hp (aI (G14.out.2.1.trans hm (fun _ _ h=>h)) (aI (heap_kept G14.out.2.2.1 hm (by have:=HBP0.out;omega)) (aI (heap_kept G14.out.2.2.2.1 hm (by have:=HBP1.out;omega)) hm.size))))
      clear hO5 hp hm
      have HB:=Lh (show R=.ok (.mk k [] 0 [⟨2,na,0⟩,⟨2,nb,0⟩] [] []) r5 from by rw [HRQ.out];simp only [Rs.bind,HO1.out,HO2.out,HO3.out,HO4.out,HO5.out])
      have z00:w15.cell? ⟨B8,0,none⟩=some (.int .i64 2):=cH G15.out.2.2.1 rfl
      have z01:w15.cell? ⟨B8,1,none⟩=some (.string ⟨na.toArray⟩):=cH G15.out.2.2.1 rfl
      have z02:w15.cell? ⟨B8,2,none⟩=some (.int .i64 0):=cH G15.out.2.2.1 rfl
      have z10:w15.cell? ⟨B9,0,none⟩=some (.int .i64 2):=cH G15.out.2.2.2.1 rfl
      have z11:w15.cell? ⟨B9,1,none⟩=some (.string ⟨nb.toArray⟩):=cH G15.out.2.2.2.1 rfl
      have z12:w15.cell? ⟨B9,2,none⟩=some (.int .i64 0):=cH G15.out.2.2.2.1 rfl
      go_wp2_with (with_reducible refine wpList_row ?_)
      clear z00 z01 z02 z10 z11 z12
      unfold Hold
      refine wpList_step fun K hK=>?_
      rw [if_pos (by kernel_rfl)]
      go_simp
      refine hK _ _ ?_
      clear hK K
      try simp only [Act.put,ub1,ub2,ub3]
      have hb:Below w15.heap.size w15 (w15.alloc (.cells #[.int .i64 2,.string ⟨na.toArray⟩,.int .i64 0,.int .i64 2,.string ⟨nb.toArray⟩,.int .i64 0] 61)):=below_new _ _
      have hrow:(w15.alloc (.cells #[.int .i64 2,.string ⟨na.toArray⟩,.int .i64 0,.int .i64 2,.string ⟨nb.toArray⟩,.int .i64 0] 61)).heap[w15.heap.size]?=some (.cells #[.int .i64 2,.string ⟨na.toArray⟩,.int .i64 0,.int .i64 2,.string ⟨nb.toArray⟩,.int .i64 0] 61 (0,0)):=heap_alloc_new _ _
      have hrz:=(gS hrow).1
      obtain ⟨BR,hBR⟩:∃ BR,BR=w15.heap.size:=⟨_,rfl⟩
      rw [<- hBR] at hrow hrz ⊢
      generalize w15.alloc (.cells #[.int .i64 2,.string ⟨na.toArray⟩,.int .i64 0,.int .i64 2,.string ⟨nb.toArray⟩,.int .i64 0] 61)=w16 at hb hrow hrz ⊢
      have G16:=Lh (aI (G15.out.1.below hb) (aI (G15.out.2.1.trans (Chalk.Mod.of_below (S:=fun k=>k=P) hb) (fun _ _ h=>h)) (aI hrow (aI hrz hBR))))
      clear hb hrow hrz hBR
      obtain ⟨x0,x1,x2,x3,x4,x5,fz0,fz1,fz2,fz3,fz4,fz5,hrl⟩:=HE.out w16 G16.out.2.1
      go_wp2_with fail
      refine bodyPost_ret (v:=.agg #[.int .i64 k,.string ⟨#[]⟩,.int .i64 0,.slice (some ⟨BR,0,none⟩) 2 2,.slice none 0 0,.slice none 0 0]) (by simp [results,Tryz.results164,go_sem, *]) rfl ?_
      rw [HRB.out]
      have hz0:=H0.out.2.2.2.2.2.1
      have hz1:=G15.out.2.1.size
      have hz2:=G16.out.2.2.2.2
      exact PFrm.last (f:=.mk k [] 0 [⟨2,na,0⟩,⟨2,nb,0⟩] [] []) (lo:=W0.heap.size) (x:=⟨⟨some ⟨BR,0,none⟩,BR,0,2⟩,noS,noS⟩) HB.out (HWM.out w16 G16.out.2.1) H0.out.2.2.2.1 (by omega) (node_terms (t:=⟨2,na,0⟩) (u:=⟨2,nb,0⟩) G16.out.2.2.1 ⟨by omega,G16.out.2.2.2.1⟩ ⟨HNA.out,by simp,by simp,by simp,by simp⟩ ⟨HNB.out,by simp,by simp,by simp,by simp⟩ ⟨by have:=HKR.out.1;omega,by have:=HKR.out.2;omega⟩ (Nat.zero_le _)) G16.out.1
end Go.Proofs.YtpmalchlecnjbaaGreatDoor
/- The parser of layer syntax: un, comparisons. (written by tools/gen_ppk.py) -/
namespace Go.Proofs.YtpmalchlecnjbaaGreatDoor
open Go.RowKit Go.Chalk
attribute [local go_sem] Oper.semAt_some
theorem pun_cmp (P:Nat) (w0:World) (hP:w0.heap.size<=P) (l:List Tok) (h1:isT [33] l=false) (h2:isT [40] l=false) (h3:isT [116,114,117,101] l=false) (h4:isT [102,97,108,115,101] l=false) (h5:kwT kwAll l=none) (h6:kwT kwAtom l=none) (w:World) (h:PAt w P l) (hg:GB w0 w):Calls Tryz.prog 164 #[.pointer (some ⟨P,0,none⟩)] w (PFrm w P (pCmp l)):=by
 obtain ⟨R,hR⟩:∃ R:Rs Frm,R=pCmp l:=⟨_,rfl⟩
 rw [<- hR]
 obtain ⟨RB,hRB⟩:∃ RB,RB=w.heap.size:=⟨_,rfl⟩
 obtain ⟨W0,hW0⟩:∃ W0,W0=w.alloc (.cells #[.int .i64 0,.string ⟨#[]⟩,.int .i64 0,.slice none 0 0,.slice none 0 0,.slice none 0 0] 28):=⟨_,rfl⟩
 have hb0:Below w.heap.size w W0:=by rw [hW0];exact below_new _ _
 have hbx:W0.heap[w.heap.size]?=some (.cells #[.int .i64 0,.string ⟨#[]⟩,.int .i64 0,.slice none 0 0,.slice none 0 0,.slice none 0 0] 28 (0,0)):=by rw [hW0];exact heap_alloc_new _ _
 have hPl:=h.lt
 have HZ:=Lh (fun (W':World) (hW:Chalk.Mod (fun k=>k=P) W0 W')=>(heap_kept hbx hW (by omega):W'.heap[w.heap.size]?=some (.cells #[.int .i64 0,.string ⟨#[]⟩,.int .i64 0,.slice none 0 0,.slice none 0 0,.slice none 0 0] 28 (0,0))))
 have HE:=Lh (fun (W':World) (hW:Chalk.Mod (fun k=>k=P) W0 W')=>(show W'.cell? ⟨RB,0,none⟩=some (.int .i64 0)/\W'.cell? ⟨RB,1,none⟩=some (.string ⟨#[]⟩)/\W'.cell? ⟨RB,2,none⟩=some (.int .i64 0)/\W'.cell? ⟨RB,3,none⟩=some (.slice none 0 0)/\W'.cell? ⟨RB,4,none⟩=some (.slice none 0 0)/\W'.cell? ⟨RB,5,none⟩=some (.slice none 0 0)/\W'.frozen? ⟨RB,0,none⟩=false/\W'.frozen? ⟨RB,1,none⟩=false/\W'.frozen? ⟨RB,2,none⟩=false/\W'.frozen? ⟨RB,3,none⟩=false/\W'.frozen? ⟨RB,4,none⟩=false/\W'.frozen? ⟨RB,5,none⟩=false/\RB<W'.heap.size from by
  have e0:=HZ.out W' hW
  rw [<- hRB] at e0
  exact ⟨cH e0 rfl,cH e0 rfl,cH e0 rfl,cH e0 rfl,cH e0 rfl,cH e0 rfl,fH e0,fH e0,fH e0,fH e0,fH e0,fH e0,(gS e0).1⟩))
 have hs0:W0.heap.size=w.heap.size+1:=by rw [hW0];simp
 have H0:=Lh (aI (h.below hb0) (aI (Chalk.Mod.refl (fun k=>k=P) W0) (aI (hg.below hb0) (aI hPl (aI (Chalk.Mod.of_below (S:=fun k=>k=P) hb0) (aI hs0 hP))))))
 have HW0:=Lh hW0
 have HRB:=Lh hRB
 have HGB:=Lh (fun (W:World) (hm:Chalk.Mod (fun k=>k=P) W0 W)=>(hg.below hb0).mod hP hm)
 have HWM:=Lh (fun (W:World) (hm:Chalk.Mod (fun k=>k=P) W0 W)=>(Chalk.Mod.of_below (S:=fun k=>k=P) hb0).trans hm (fun _ _ h=>h))
 have G0:=Lh (aI H0.out.1 H0.out.2.1)
 have HT1:=Lh (fun (W:World) (hp:PAt W P l)=>ptook_no P [33] l W hp h1)
 have HT2:=Lh (fun (W:World) (hp:PAt W P l)=>pis_l P [40] l false h2 W hp)
 have HT3:=Lh (fun (W:World) (hp:PAt W P l)=>ptook_no P [116,114,117,101] l W hp h3)
 have HT4:=Lh (fun (W:World) (hp:PAt W P l)=>ptook_no P [102,97,108,115,101] l W hp h4)
 have HO5:=Lh (fun (bm:Nat) (W:World) (hp:PAt W P l) (hm:KwAt W bm kwAll)=>pone_no P bm kwAll l W hp hm h5)
 have HO6:=Lh (fun (bm:Nat) (W:World) (hp:PAt W P l) (hm:KwAt W bm kwAtom)=>pone_no P bm kwAtom l W hp hm h6)
 have HPP:=Lh (aI hP hPl)
 clear h hg hP hb0 hbx hs0 hW0 h1 h2 h3 h4 h5 h6 hRB
 have HRQ:=Lh hR
 clear hR
 go_enter Tryz.func164,Tryz.ntmps164
 go_wp2_with fail
 rw [<- HW0.out]
 rw [<- HRB.out]
 refine (HT1.out _ G0.out.1).mono ?_
 rintro e w1 ⟨rfl,hb⟩
 have G1:=Lh (aI (G0.out.1.below hb) (G0.out.2.trans (Chalk.Mod.of_below (S:=fun k=>k=P) hb) (fun _ _ h=>h)))
 clear hb
 go_wp2_with fail
 refine (HT2.out _ G1.out.1).mono ?_
 rintro e w2 ⟨rfl,hb⟩
 have G2:=Lh (aI (G1.out.1.below hb) (G1.out.2.trans (Chalk.Mod.of_below (S:=fun k=>k=P) hb) (fun _ _ h=>h)))
 clear hb
 go_wp2_with fail
 refine (HT3.out _ G2.out.1).mono ?_
 rintro e w3 ⟨rfl,hb⟩
 have G3:=Lh (aI (G2.out.1.below hb) (G2.out.2.trans (Chalk.Mod.of_below (S:=fun k=>k=P) hb) (fun _ _ h=>h)))
 clear hb
 go_wp2_with fail
 refine (HT4.out _ G3.out.1).mono ?_
 rintro e w4 ⟨rfl,hb⟩
 have G4:=Lh (aI (G3.out.1.below hb) (G3.out.2.trans (Chalk.Mod.of_below (S:=fun k=>k=P) hb) (fun _ _ h=>h)))
 clear hb
 go_wp2_with fail
 refine (alls_any w4).mono ?_
 rintro e w5 ⟨rfl,rfl⟩
 have hb:Below w4.heap.size w4 (w4.alloc (.map (kwEs 0 kwAll).toArray 4)):=below_new _ _
 have hk:KwAt (w4.alloc (.map (kwEs 0 kwAll).toArray 4)) w4.heap.size kwAll:=heap_alloc_new _ _
 generalize w4.alloc (.map (kwEs 0 kwAll).toArray 4)=w5 at hb hk ⊢
 have G5:=Lh (aI (G4.out.1.below hb) (G4.out.2.trans (Chalk.Mod.of_below (S:=fun k=>k=P) hb) (fun _ _ h=>h)))
 have KW:=Lh hk
 clear hb hk
 go_wp2_with fail
 refine (HO5.out _ w5 G5.out.1 KW.out).mono ?_
 rintro e w6 ⟨rfl,hb⟩
 have G6:=Lh (aI (G5.out.1.below hb) (G5.out.2.trans (Chalk.Mod.of_below (S:=fun k=>k=P) hb) (fun _ _ h=>h)))
 clear hb KW
 go_wp2_with fail
 refine (atoms_any w6).mono ?_
 rintro e w7 ⟨rfl,rfl⟩
 have hb:Below w6.heap.size w6 (w6.alloc (.map (kwEs 0 kwAtom).toArray 6)):=below_new _ _
 have hk:KwAt (w6.alloc (.map (kwEs 0 kwAtom).toArray 6)) w6.heap.size kwAtom:=heap_alloc_new _ _
 generalize w6.alloc (.map (kwEs 0 kwAtom).toArray 6)=w7 at hb hk ⊢
 have G7:=Lh (aI (G6.out.1.below hb) (G6.out.2.trans (Chalk.Mod.of_below (S:=fun k=>k=P) hb) (fun _ _ h=>h)))
 have KW:=Lh hk
 clear hb hk
 go_wp2_with fail
 refine (HO6.out _ w7 G7.out.1 KW.out).mono ?_
 rintro e w8 ⟨rfl,hb⟩
 have G8:=Lh (aI (G7.out.1.below hb) (aI (G7.out.2.trans (Chalk.Mod.of_below (S:=fun k=>k=P) hb) (fun _ _ h=>h)) hb.size))
 clear hb KW
 go_wp2_with fail
 refine (pterm_any P l w0 w8 G8.out.1 (HGB.out w8 G8.out.2.1) HPP.out.1).mono ?_
 rintro e w9 hp
 cases hO1:pTerm l with
 | bad m =>
  obtain ⟨rfl,hm⟩:=hp.fails hO1
  exact ⟨rfl,PFrm.bad (by rw [HRQ.out];simp only [Rs.bind,pCmp,hO1]) (HWM.out w9 (G8.out.2.1.trans hm (fun _ _ h=>h)))⟩
 | ok a r1 =>
  have HO1:=Lh hO1
  obtain ⟨rfl,ht,hp,hm⟩:=hp.gets hO1
  have HTa:=Lh ht
  have G9:=Lh (aI hp (aI (G8.out.2.1.trans hm (fun _ _ h=>h)) hm.size))
  clear hO1 hp hm ht
  obtain ⟨B0,hB0⟩:∃ B0,B0=w9.heap.size:=⟨_,rfl⟩
  obtain ⟨w10,hw10⟩:∃ w10,w10=w9.alloc (.cells #[.int .i64 a.kind,.string ⟨a.name.toArray⟩,.int .i64 a.n] 61):=⟨_,rfl⟩
  have hb:Below w9.heap.size w9 w10:=by rw [hw10];exact below_new _ _
  have hx:w10.heap[B0]?=some (.cells #[.int .i64 a.kind,.string ⟨a.name.toArray⟩,.int .i64 a.n] 61 (0,0)):=by rw [hw10,hB0];exact heap_alloc_new _ _
  have HBP0:Hid (P<B0/\W0.heap.size<=B0):=Lh ⟨by have:=G9.out.1.lt;omega,by have:=G9.out.2.1.size;omega⟩
  have G10:=Lh (aI (G9.out.1.below hb) (aI (G9.out.2.1.trans (Chalk.Mod.of_below (S:=fun k=>k=P) hb) (fun _ _ h=>h)) (aI hx hb.size)))
  have HW10:=Lh hw10
  have HB0:=Lh hB0
  clear hb hx hw10 hB0
  go_wp2_with (with_reducible refine wpList_row ?_)
  rw [<- HW10.out,<- HB0.out]
  unfold Hold
  refine wpList_step fun K hK=>?_
  rw [if_pos (by kernel_rfl)]
  go_simp
  refine hK _ _ ?_
  clear hK K
  try simp only [Act.put,ub1,ub2,ub3]
  obtain ⟨B1,hB1⟩:∃ B1,B1=w10.heap.size:=⟨_,rfl⟩
  obtain ⟨w11,hw11⟩:∃ w11,w11=w10.alloc (.cells #[.string ⟨#[61]⟩,.string ⟨#[33,61]⟩,.string ⟨#[60]⟩,.string ⟨#[60,61]⟩,.string ⟨#[62]⟩,.string ⟨#[62,61]⟩] 9):=⟨_,rfl⟩
  have hb:Below w10.heap.size w10 w11:=by rw [hw11];exact below_new _ _
  have hx:w11.heap[B1]?=some (.cells #[.string ⟨#[61]⟩,.string ⟨#[33,61]⟩,.string ⟨#[60]⟩,.string ⟨#[60,61]⟩,.string ⟨#[62]⟩,.string ⟨#[62,61]⟩] 9 (0,0)):=by rw [hw11,hB1];exact heap_alloc_new _ _
  have HBP1:Hid (P<B1/\W0.heap.size<=B1):=Lh ⟨by have:=G10.out.1.lt;omega,by have:=G10.out.2.1.size;omega⟩
  have G11:=Lh (aI (G10.out.1.below hb) (aI (G10.out.2.1.trans (Chalk.Mod.of_below (S:=fun k=>k=P) hb) (fun _ _ h=>h)) (aI ((hb.block _ (gS G10.out.2.2.1).1).trans G10.out.2.2.1) (aI hx hb.size))))
  have HW11:=Lh hw11
  have HB1:=Lh hB1
  clear hb hx hw11 hB1
  go_wp2_with fail
  rw [<- HW11.out,<- HB1.out]
  obtain ⟨⟨kt,xt,nt⟩,q1,hr1⟩:=G11.out.1.1.cons
  subst hr1
  refine (pnext_any P _ q1 w11 G11.out.1).mono ?_
  rintro e w12 ⟨rfl,hb⟩
  have G12:=Lh (aI (G11.out.1.below hb) (aI (G11.out.2.1.trans (Chalk.Mod.of_below (S:=fun k=>k=P) hb) (fun _ _ h=>h)) (aI ((hb.block _ (gS G11.out.2.2.1).1).trans G11.out.2.2.1) (aI ((hb.block _ (gS G11.out.2.2.2.1).1).trans G11.out.2.2.2.1) hb.size))))
  clear hb
  obtain ⟨B2,hB2⟩:∃ B2,B2=w12.heap.size:=⟨_,rfl⟩
  obtain ⟨w13,hw13⟩:∃ w13,w13=w12.alloc (.cells #[.int .i64 kt,.string ⟨xt.toArray⟩,.int .i64 (nt:Int)] 51):=⟨_,rfl⟩
  have hb:Below w12.heap.size w12 w13:=by rw [hw13];exact below_new _ _
  have hx:w13.heap[B2]?=some (.cells #[.int .i64 kt,.string ⟨xt.toArray⟩,.int .i64 (nt:Int)] 51 (0,0)):=by rw [hw13,hB2];exact heap_alloc_new _ _
  have HBP2:Hid (P<B2/\W0.heap.size<=B2):=Lh ⟨by have:=G12.out.1.lt;omega,by have:=G12.out.2.1.size;omega⟩
  have G13:=Lh (aI (G12.out.1.below hb) (aI (G12.out.2.1.trans (Chalk.Mod.of_below (S:=fun k=>k=P) hb) (fun _ _ h=>h)) (aI ((hb.block _ (gS G12.out.2.2.1).1).trans G12.out.2.2.1) (aI ((hb.block _ (gS G12.out.2.2.2.1).1).trans G12.out.2.2.2.1) (aI hx hb.size)))))
  have HW13:=Lh hw13
  have HB2:=Lh hB2
  clear hb hx hw13 hB2
  by_cases hk3:kt=3
  rotate_left
  ·have z20:w13.cell? ⟨B2,0,none⟩=some (.int .i64 kt):=cH G13.out.2.2.2.2.1 rfl
   have z21:w13.cell? ⟨B2,1,none⟩=some (.string ⟨xt.toArray⟩):=cH G13.out.2.2.2.2.1 rfl
   have z22:w13.cell? ⟨B2,2,none⟩=some (.int .i64 (nt:Int)):=cH G13.out.2.2.2.2.1 rfl
   have e3:(kt==3)=false:=by simpa using hk3
   go_wp2_with fail
   try rw [<- HW13.out]
   refine (pfail_any P _ q1 w13 G13.out.1).mono ?_
   rintro e w14 ⟨rfl,hb⟩
   exact ⟨rfl,PFrm.bad (by rw [HRQ.out];simp only [Rs.bind,pCmp,HO1.out];rw [show opT (⟨kt,xt,nt⟩ :: q1)=none from if_neg (fun h=>hk3 h.1)];rfl) (HWM.out w14 (G13.out.2.1.trans (Chalk.Mod.of_below (S:=fun k=>k=P) hb) (fun _ _ h=>h)))⟩
  subst hk3
  have HCT:=Lh (Tryz.slices_Contains_string B1 0 6 6 (cmpL.map (fun x=>(⟨x.toArray⟩:ByteArray))) ⟨xt.toArray⟩ w13 (by decide) (by decide) (fun j hj=>by
   have hj':j<6:=hj
   have e:=G13.out.2.2.2.1
   match j,hj' with
   | 0,_=>exact cH (i:=0) e rfl
   | 1,_=>exact cH (i:=1) e rfl
   | 2,_=>exact cH (i:=2) e rfl
   | 3,_=>exact cH (i:=3) e rfl
   | 4,_=>exact cH (i:=4) e rfl
   | 5,_=>exact cH (i:=5) e rfl))
  rw [show (cmpL.map (fun x=>(⟨x.toArray⟩:ByteArray))).take 6=cmpL.map (fun x=>(⟨x.toArray⟩:ByteArray)) from rfl,bsIn] at HCT
  cases hct:cmpL.contains xt with
  | false =>
   rw [hct] at HCT
   have z20:w13.cell? ⟨B2,0,none⟩=some (.int .i64 3):=cH G13.out.2.2.2.2.1 rfl
   have z21:w13.cell? ⟨B2,1,none⟩=some (.string ⟨xt.toArray⟩):=cH G13.out.2.2.2.2.1 rfl
   have z22:w13.cell? ⟨B2,2,none⟩=some (.int .i64 (nt:Int)):=cH G13.out.2.2.2.2.1 rfl
   go_wp2_with fail
   rw [<- HW13.out,<- HB2.out]
   refine HCT.out.mono ?_
   rintro e w14 ⟨rfl,hw14⟩
   rw [hw14]
   clear hw14
   go_wp2_with fail
   refine (pfail_any P _ q1 w13 G13.out.1).mono ?_
   rintro e w14 ⟨rfl,hb⟩
   exact ⟨rfl,PFrm.bad (by rw [HRQ.out];simp only [Rs.bind,pCmp,HO1.out];rw [show opT (⟨3,xt,nt⟩ :: q1)=none from if_neg (fun h=>by rw [hct] at h;cases h.2)];rfl) (HWM.out w14 (G13.out.2.1.trans (Chalk.Mod.of_below (S:=fun k=>k=P) hb) (fun _ _ h=>h)))⟩
  | true =>
   rw [hct] at HCT
   have HOP:=Lh (show opT (⟨3,xt,nt⟩ :: q1)=some xt from if_pos ⟨rfl,hct⟩)
   clear hct
   have z20:w13.cell? ⟨B2,0,none⟩=some (.int .i64 3):=cH G13.out.2.2.2.2.1 rfl
   have z21:w13.cell? ⟨B2,1,none⟩=some (.string ⟨xt.toArray⟩):=cH G13.out.2.2.2.2.1 rfl
   have z22:w13.cell? ⟨B2,2,none⟩=some (.int .i64 (nt:Int)):=cH G13.out.2.2.2.2.1 rfl
   go_wp2_with fail
   rw [<- HW13.out,<- HB2.out]
   refine HCT.out.mono ?_
   rintro e w14 ⟨rfl,hw14⟩
   rw [hw14]
   clear hw14
   go_wp2_with fail
   clear z20 z21 z22
   refine (ppass_any P _ q1 w13 G13.out.1 (show (3:Int) ≠ 4 by decide)).mono ?_
   rintro e w15 ⟨rfl,hp,hm⟩
   have G15:=Lh (aI hp (aI (G13.out.2.1.trans hm (fun _ _ h=>h)) (aI (heap_kept G13.out.2.2.1 hm (by have:=HBP0.out;omega)) (aI (heap_kept G13.out.2.2.2.2.1 hm (by have:=HBP2.out;omega)) hm.size))))
   clear hp hm
   have HK:Hid (∀ w':World,w'.heap[B0]?=some (.cells #[.int .i64 a.kind,.string ⟨a.name.toArray⟩,.int .i64 a.n] 61 (0,0))->w'.heap[B2]?=some (.cells #[.int .i64 3,.string ⟨xt.toArray⟩,.int .i64 (nt:Int)] 51 (0,0))->w'.cell? ⟨B2,1,none⟩=some (.string ⟨xt.toArray⟩)/\w'.cell? ⟨B0,0,none⟩=some (.int .i64 a.kind)/\w'.cell? ⟨B0,1,none⟩=some (.string ⟨a.name.toArray⟩)/\w'.cell? ⟨B0,2,none⟩=some (.int .i64 a.n)):=Lh (fun w' e f=>⟨cH f rfl,cH e rfl,cH e rfl,cH e rfl⟩)
   have HD:=Lh (pterm_any P q1 w0 w15.drew (G15.out.1.below (Below.refl _ _).drew) ((HGB.out w15 G15.out.2.1).below (Below.refl _ _).drew) HPP.out.1)
   go_wp2_with fail
   refine wp_region_U 7 (S:=fun w'=>w'.cell? ⟨B2,1,none⟩=some (.string ⟨xt.toArray⟩)/\w'.cell? ⟨B0,0,none⟩=some (.int .i64 a.kind)/\w'.cell? ⟨B0,1,none⟩=some (.string ⟨a.name.toArray⟩)/\w'.cell? ⟨B0,2,none⟩=some (.int .i64 a.n)) (by kernel_rfl) (HK.out _ G15.out.2.2.1 G15.out.2.2.2.1) (fun hHeld=>?_)
   refine tkU (i:=0) rfl hHeld ?_
   try simp only [Act.put,ub1,ub2,ub3]
   refine tkU (i:=1) rfl hHeld ?_
   try simp only [Act.put,ub1,ub2,ub3]
   refine tkU (i:=2) rfl hHeld ?_
   try simp only [Act.put,ub1,ub2,ub3]
   refine tkU (i:=3) rfl hHeld ?_
   try simp only [Act.put,ub1,ub2,ub3]
   refine ready_U (rs:=[4]) (by kernel_rfl) (by simp) ?_
   refine cons_U rfl (fun K hK=>?_) nil_U
   go_simp
   go_at_call 189
   refine HD.out.mono ?_
   rintro e w16 hp
   cases hO2:pTerm q1 with
   | bad m =>
    obtain ⟨rfl,hm⟩:=hp.fails hO2
    exact ⟨rfl,PFrm.bad (by rw [HRQ.out];simp only [Rs.bind,pCmp,HO1.out,HOP.out,List.tail_cons,hO2]) (HWM.out w16 (G15.out.2.1.trans (PAt.mod (Below.refl _ _).drew hm) (fun _ _ h=>h)))⟩
   | ok b r2 =>
    have HB:=Lh (show R=.ok (.mk 9 xt 0 [a,b] [] []) r2 from by rw [HRQ.out];simp only [Rs.bind,pCmp,HO1.out,HOP.out,List.tail_cons,hO2])
    obtain ⟨rfl,ht,hp,hm⟩:=hp.gets hO2
    have HTb:=Lh ht
    have HX1:Hid (xt.length<=281474976710656):=Lh (G11.out.1.2.1 ⟨3,xt,nt⟩ (by simp)).len
    have hm:=PAt.mod (Below.refl w15.heap.size w15).drew hm
    have G16:=Lh (aI hp (aI (G15.out.2.1.trans hm (fun _ _ h=>h)) (aI (heap_kept G15.out.2.2.1 hm (by have:=HBP0.out;omega)) (aI (heap_kept G15.out.2.2.2.1 hm (by have:=HBP2.out;omega)) hm.size))))
    clear ht hp hm hO2
    go_simp
    refine hK.out _ _ ?_ (fun hHeld2=>?_)
    ·exact HK.out _ G16.out.2.2.1 G16.out.2.2.2.1
    clear hK K hHeld
    have hHeld:=hHeld2
    clear hHeld2
    try simp only [Act.put,ub1,ub2,ub3]
    refine ready_U (rs:=[5]) (by kernel_rfl) (by simp) ?_
    refine cons_U rfl (fun K hK=>?_) nil_U
    go_simp
    have hb:Below w16.heap.size w16 (w16.alloc (.cells #[.int .i64 a.kind,.string ⟨a.name.toArray⟩,.int .i64 a.n,.int .i64 b.kind,.string ⟨b.name.toArray⟩,.int .i64 b.n] 61)):=below_new _ _
    have hrow:(w16.alloc (.cells #[.int .i64 a.kind,.string ⟨a.name.toArray⟩,.int .i64 a.n,.int .i64 b.kind,.string ⟨b.name.toArray⟩,.int .i64 b.n] 61)).heap[w16.heap.size]?=some (.cells #[.int .i64 a.kind,.string ⟨a.name.toArray⟩,.int .i64 a.n,.int .i64 b.kind,.string ⟨b.name.toArray⟩,.int .i64 b.n] 61 (0,0)):=heap_alloc_new _ _
    have hrz:=(gS hrow).1
    obtain ⟨BR,hBR⟩:∃ BR,BR=w16.heap.size:=⟨_,rfl⟩
    rw [<- hBR] at hrow hrz ⊢
    generalize w16.alloc (.cells #[.int .i64 a.kind,.string ⟨a.name.toArray⟩,.int .i64 a.n,.int .i64 b.kind,.string ⟨b.name.toArray⟩,.int .i64 b.n] 61)=w17 at hb hrow hrz ⊢
    have G17:=Lh (aI (G16.out.1.below hb) (aI (G16.out.2.1.trans (Chalk.Mod.of_below (S:=fun k=>k=P) hb) (fun _ _ h=>h)) (aI ((hb.block _ (gS G16.out.2.2.1).1).trans G16.out.2.2.1) (aI ((hb.block _ (gS G16.out.2.2.2.1).1).trans G16.out.2.2.2.1) (aI hrow (aI hrz hBR))))))
    clear hb hrow hrz hBR
    refine hK.out _ _ ?_ (fun hHeld2=>?_)
    ·exact HK.out _ G17.out.2.2.1 G17.out.2.2.2.1
    clear hK K hHeld
    have hHeld:=hHeld2
    clear hHeld2
    try simp only [Act.put,ub1,ub2,ub3]
    refine tkU (i:=6) rfl hHeld ?_
    try simp only [Act.put,ub1,ub2,ub3]
    refine ready_U (rs:=[7]) (by kernel_rfl) (by simp) ?_
    refine cons_V rfl (by kernel_rfl) (fun K hK=>?_) nil_U
    obtain ⟨x0,x1,x2,x3,x4,x5,fz0,fz1,fz2,fz3,fz4,fz5,hrl⟩:=HE.out w17 G17.out.2.1
    go_simp
    refine hK.out _ _ ?_
    clear hK K
    try simp only [Act.put,ub1,ub2,ub3]
    refine done_U (by kernel_rfl) ?_ _
    dsimp only [Exit.then]
    refine (‹∀ (a:Act) (w_1:World),Code.wp Tryz.prog Code.ret _ a w_1->_›:_) _ _ ?_
    refine wp_ret ?_
    refine bodyPost_ret (v:=.agg #[.int .i64 9,.string ⟨xt.toArray⟩,.int .i64 0,.slice (some ⟨BR,0,none⟩) 2 2,.slice none 0 0,.slice none 0 0]) (by simp [results,Tryz.results164,go_sem, *]) rfl ?_
    rw [HRB.out]
    have hz0:=H0.out.2.2.2.2.2.1
    have hz1:=G16.out.2.1.size
    have hz2:=G17.out.2.2.2.2.2.2
    exact PFrm.last (f:=.mk 9 xt 0 [a,b] [] []) (lo:=W0.heap.size) (x:=⟨⟨some ⟨BR,0,none⟩,BR,0,2⟩,noS,noS⟩) HB.out (HWM.out w17 G17.out.2.1) H0.out.2.2.2.1 (by omega) (node_terms G17.out.2.2.2.2.1 ⟨by omega,G17.out.2.2.2.2.2.1⟩ HTa.out HTb.out (by decide) HX1.out) G17.out.1
end Go.Proofs.YtpmalchlecnjbaaGreatDoor
/- The parser of layer syntax: un whole; formulas by induction on the number of tokens. -/
namespace Go.Proofs.YtpmalchlecnjbaaGreatDoor
open Go.RowKit Go.Chalk
theorem pun_any (P:Nat) (w0:World) (hP:w0.heap.size<=P) (l:List Tok) (hU:∀ l':List Tok,l'.length<l.length->FOk w0 P 164 parUn l') (hB:∀ l':List Tok,l'.length<=l.length->FOk w0 P 188 parBrk l'):FOk w0 P 164 parUn l:=by
 intro w h hg
 have ht:l.tail.length<l.length:=by obtain ⟨t,r,e⟩:=h.1.cons;rw [e];simp
 rw [parUn_eq]
 cases h1:isT [33] l with
 | true=>rw [if_pos rfl];exact pun_not P w0 hP l h1 (hU _ ht) w h hg
 | false =>
  rw [if_neg (by decide)]
  cases h2:isT [40] l with
  | true=>rw [if_pos rfl];exact pun_brk P w0 hP l h1 h2 (hB _ (Nat.le_refl _)) w h hg
  | false =>
   rw [if_neg (by decide)]
   cases h3:isT [116,114,117,101] l with
   | true=>rw [if_pos rfl];exact pun_tru P w0 hP l h1 h2 h3 w h hg
   | false =>
    rw [if_neg (by decide)]
    cases h4:isT [102,97,108,115,101] l with
    | true=>rw [if_pos rfl];exact pun_fal P w0 hP l h1 h2 h3 h4 w h hg
    | false =>
     rw [if_neg (by decide)]
     cases h5:kwT kwAll l with
     | some k=>exact pun_all P w0 hP l h1 h2 h3 h4 k h5 (fun l' h'=>hB l' (Nat.le_of_lt h')) w h hg
     | none =>
      cases h6:kwT kwAtom l with
      | some k=>exact pun_atom P w0 hP l h1 h2 h3 h4 h5 k h6 w h hg
      | none=>exact pun_cmp P w0 hP l h1 h2 h3 h4 h5 h6 w h hg
theorem pfs_any (P:Nat) (w0:World) (hP:w0.heap.size<=P):∀ (m:Nat) (l:List Tok),l.length<=m->FOk w0 P 40 parF l/\FOk w0 P 164 parUn l:=by
 intro m
 induction m using Nat.strongRecOn with
 | _ m ih =>
  have hF:∀ l':List Tok,l'.length<m->FOk w0 P 40 parF l':=fun l' h=>(ih l'.length h l' (Nat.le_refl _)).1
  have hUn:∀ l':List Tok,l'.length<m->FOk w0 P 164 parUn l':=fun l' h=>(ih l'.length h l' (Nat.le_refl _)).2
  have hB:∀ l':List Tok,l'.length<=m->FOk w0 P 188 parBrk l':=fun l' h w hp hg=>pbracketed_any P w0 hP l' (fun l2 h2=>hF l2 (by omega)) w hp hg
  have hU:∀ l':List Tok,l'.length<=m->FOk w0 P 164 parUn l':=fun l' h=>pun_any P w0 hP l' (fun l2 h2=>hUn l2 (by omega)) (fun l2 h2=>hB l2 (by omega))
  have hA:∀ l':List Tok,l'.length<=m->FOk w0 P 129 parAnd l':=fun l' h w hp hg=>pand_any P w0 hP l' (fun l2 h2=>hU l2 (by omega)) w hp hg
  have hO:∀ l':List Tok,l'.length<=m->FOk w0 P 72 parOr l':=fun l' h w hp hg=>por_any P w0 hP l' (fun l2 h2=>hA l2 (by omega)) w hp hg
  intro l hl
  exact ⟨fun w hp hg=>pformula_any P w0 hP l (hO l hl) (fun l2 h2=>hF l2 (by omega)) w hp hg,hU l hl⟩
theorem pf_any (P:Nat) (w0:World) (hP:w0.heap.size<=P) (l:List Tok) (w:World) (h:PAt w P l) (hg:GB w0 w):Calls Tryz.prog 40 #[.pointer (some ⟨P,0,none⟩)] w (PFrm w P (parF l)) :=
 (pfs_any P w0 hP l.length l (Nat.le_refl _)).1 w h hg
end Go.Proofs.YtpmalchlecnjbaaGreatDoor
