/- Joined texts: PPv, PCa, PCb, PCc, PCd, PSa, PSb, PSc, PLa. -/
import Derived.Test.YtpmalchlecnjbaaGreatDoorV38
import Derived.Test.YtpmalchlecnjbaaGreatDoorV07
import Derived.Test.YtpmalchlecnjbaaGreatDoorV11
import Derived.Test.YtpmalchlecnjbaaGreatDoorV34
import Derived.Test.YtpmalchlecnjbaaGreatDoorV08
import Derived.Test.YtpmalchlecnjbaaGreatDoorV35
import Derived.Laws.StructEq
set_option maxHeartbeats 8000000
set_option maxRecDepth 100000
set_option linter.unusedVariables false
set_option linter.unusedSimpArgs false
/- syntax.Parse: its step. (written by tools/gen_ppv.py) -/
namespace Go.Proofs.YtpmalchlecnjbaaGreatDoor
open Go.RowKit Go.Chalk
attribute [local go_sem] Oper.semAt_some
theorem rul_info:(Tryz.prog.info? 64).map (fun i=>(i.zero,i.size,i.bytes))=some (some (.agg #[.string ⟨#[]⟩,.bool false,.int .i64 0,.slice none 0 0,.int .i64 0,.string ⟨#[]⟩,.int .i64 0,.slice none 0 0,.slice none 0 0,.slice none 0 0]),10,160):=by kernel_rfl
def RulesAt (C lo:Nat) (R:Rs (List Rul)) (W:World):Prop:=∀ l r,R=.ok l r->∃ z:SlA,W.heap[C]?=some (.cells #[.slice z.a l.length z.cap] 38 (0,0))/\SlIn W (Fr lo W) (l.map Rul.toD) z
theorem SlIn.modB {lo:Nat} {w w':World} {xs:List D} {x:SlA} {S:Nat->Prop} (h:SlIn w (Fr lo w) xs x) (hm:Chalk.Mod S w w') (hS:∀ k,S k->k<lo):SlIn w' (Fr lo w') xs x :=
 (h.agree (hm.agree (fun k hk=>⟨hk.2,fun hs=>by have:=hS k hs;have:=hk.1;omega⟩))).mono (fun k hk=>⟨hk.1,Nat.lt_of_lt_of_le hk.2 hm.size⟩)
theorem RulesAt.kept {C lo:Nat} {R:Rs (List Rul)} {W W':World} {S:Nat->Prop} (h:RulesAt C lo R W) (hm:Chalk.Mod S W W') (hC:¬ S C) (hS:∀ k,S k->k<lo):RulesAt C lo R W':=fun l r hR=>by
 obtain ⟨z,h1,h2⟩:=h l r hR
 exact ⟨z,heap_kept h1 hm hC,SlIn.modB h2 hm hS⟩
def StepR (C P lo:Nat) (R:Rs (List Rul)) (W:World) (e:Ending) (W':World):Prop :=
 Chalk.Mod (fun k=>k=C∨k=P) W W'/\match R with | .ok _ r=>e=.returned (.tuple #[])/\RulesAt C lo R W'/\PAt W' P r | .bad n=>e=.panicked (wrongP n)
theorem StepR.bad {C P lo m:Nat} {R:Rs (List Rul)} {W W':World} (hR:R=.bad m) (hm:Chalk.Mod (fun k=>k=C∨k=P) W W'):StepR C P lo R W (.panicked (wrongP m)) W':=by subst hR;exact ⟨hm,rfl⟩
theorem StepR.ok {C P lo:Nat} {R:Rs (List Rul)} {W W':World} {f:List Rul} {r:List Tok} (hR:R=.ok f r) (hm:Chalk.Mod (fun k=>k=C∨k=P) W W') (h:RulesAt C lo R W') (hp:PAt W' P r):StepR C P lo R W (.returned (.tuple #[])) W':=by subst hR;exact ⟨hm,rfl,h,hp⟩
theorem PAt.low1 {w w':World} {P C n cp:Nat} {a:Option Addr} {l:List Tok} {T:TypeId} (h:PAt w P l) (hm:Chalk.Mod (fun k=>k=C) w w') (hC:C<P) (hz:w.heap[C]?=some (.cells #[.slice a n cp] T (0,0))):PAt w' P l:=by
 have hlt:=h.lt
 obtain ⟨h1,h2,h2',b,o,cap,h3,h4,h5,h6,h7⟩:=h
 have hk:∀ k,k<w.heap.size->k ≠ C->w'.heap[k]?=w.heap[k]?:=fun k hk hs=>hm.block k hk hs
 have hne:b ≠ C:=by
  rintro rfl
  obtain ⟨t,r,rfl⟩:=h1.cons
  have e0:=(h7 0 (by simp)).1
  have hc:∀ q:Nat,w.cell? ⟨b,q,none⟩=(#[.slice a n cp]:Array Value)[q]?:=fun q=>by simp [World.cell?,hz]
  rw [hc] at e0
  rcases o with _ | o
  all_goals simp at e0
 have hc:∀ (q:Nat) (v:Value),w.cell? ⟨b,q,none⟩=some v->w'.cell? ⟨b,q,none⟩=some v:=fun q v e=>(World.cell?_of_block (a:=⟨b,q,none⟩) (hk b (by omega) hne)).trans e
 exact ⟨h1,h2,h2',b,o,cap,(hk P hlt (by omega)).trans h3,h4,h5,h6,fun i hi=>⟨hc _ _ (h7 i hi).1,hc _ _ (h7 i hi).2.1,hc _ _ (h7 i hi).2.2⟩⟩
theorem parRules_end {l:List Tok} (h:isEnd l=true):parRules l=.ok [] l:=by rw [parRules_eq,if_pos h]
theorem parRules_more {l:List Tok} (h:isEnd l=false):parRules l=(parRule l).bind fun r l=>(parRules l).bind fun rs l=>.ok (r :: rs) l:=by rw [parRules_eq,if_neg (by rw [h];decide)]
theorem parseS_any (C P lo:Nat) (w0:World) (ts:List Tok) (W:World) (hCP:C<P) (hC:w0.heap.size<=C) (hlo:lo<=P) (hts:ts.length<=16385) (hp:PAt W P ts) (hg:GB w0 W)
  (hc:W.heap[C]?=some (.cells #[.slice none 0 0] 38 (0,0))) :
  Calls Tryz.prog 47 #[.pointer (some ⟨P,0,none⟩),.pointer (some ⟨C,0,none⟩)] W (StepR C P lo (parRules ts) W):=by
 obtain ⟨R,hR⟩:∃ R,R=parRules ts:=⟨_,rfl⟩
 rw [<- hR]
 have hPl:=hp.lt
 have HGB:=Lh (fun (W':World) (hm:Chalk.Mod (fun k=>k=C∨k=P) W W')=>(show GB w0 W' from ⟨hg.1,hg.2.trans (hm.below hg.2.size (fun k hk=>by rcases hk with h | h <;> omega))⟩))
 have H0:=Lh (aI hp (aI hc (aI hlo (aI hCP (aI hPl hts)))))
 have HWP:Hid (w0.heap.size<=P):=Lh (by omega)
 have HR:=Lh hR
 have hf0:=tokField0
 obtain ⟨i0,hi,hz0,hz1,hz2⟩:=info_parts rul_info
 clear hp hg hc hlo hCP hC hPl hts hR
 go_enter Tryz.func47,Tryz.ntmps47
 go_wp2_with fail
 go_loopw [] (fun wr=>∃ (j:Nat) (acc:List Rul) (a:Option Addr) (cap:Nat) (lj:List Tok),Hid (acc.length=j)/\Hid (wr.heap[C]?=some (.cells #[.slice a j cap] 38 (0,0)))/\Hid (OwnH wr 64 10 W.heap.size wr.heap.size (.slice a j cap) (acc.map Rul.toD))/\Hid (PAt wr P lj)/\Hid (Chalk.Mod (fun k=>k=C∨k=P) W wr)/\Hid (R=(parRules lj).bind fun r l=>.ok (acc++r) l)/\Hid (j+lj.length<=16385)) (fun wr=>parLen wr P)
 case atStart=>exact ⟨0,[],none,0,ts,Lh rfl,Lh H0.out.2.1,Lh (OwnH.nil _ _ _ _ _),Lh H0.out.1,Lh (Chalk.Mod.refl _ _),Lh (by rw [HR.out];cases parRules ts <;> rfl),Lh (by have:=H0.out.2.2.2.2.2;omega)⟩
 case round =>
  obtain ⟨j,acc,a,cap,lj,HL,HX,HO,HP,HM,HRR,HLN⟩:=hrel
  obtain ⟨⟨kt,xt,nt⟩,q1,hlj⟩:=HP.out.1.cons
  have HNX:=Lh (pnext_any P ⟨kt,xt,nt⟩ q1 wr (by rw [<- hlj];exact HP.out))
  by_cases hk:kt=4
  ·subst hk
   have HRF:=Lh (show R=.ok acc lj by rw [HRR.out,parRules_end (by rw [hlj];rfl)];simp [Rs.bind])
   clear hlj
   go_wp2_with fail
   refine HNX.out.mono ?_
   rintro e w2 ⟨rfl,hb2⟩
   have H2:=Lh hb2
   clear hb2
   go_wp2_with fail
   refine bodyPost_ret (v:=.tuple #[]) (by simp [results,Tryz.results47]) rfl ?_
   have hP:=H0.out.2.2.1
   refine StepR.ok HRF.out (HM.out.trans (Chalk.Mod.of_below (S:=fun k=>k=C∨k=P) H2.out) (fun _ _ h=>h)) (fun l' r' h'=>?_) (HP.out.below H2.out)
   cases HRF.out.symm.trans h'
   obtain ⟨z,hz,hs⟩:=HO.out.sl (ruls_widths _)
   rw [List.length_map,HL.out] at hz
   cases hz
   refine ⟨z,?_,(SlIn.modB hs (Chalk.Mod.of_below (S:=fun _=>False) H2.out) (fun _ h=>h.elim)).mono (fun k hk=>⟨by have:=hk.1;have:=H0.out.2.2.2.2.1;omega,hk.2⟩)⟩
   rw [HL.out]
   exact (H2.out.block _ (gS HX.out).1).trans HX.out
  ·have hk2:(kt==4)=false:=by simpa using hk
   have hie:isEnd lj=false:=by rw [hlj];exact hk2
   have hrr:=HRR.out
   rw [parRules_more hie] at hrr
   have HK:Hid (∀ w':World,w'.heap[C]?=some (.cells #[.slice a j cap] 38 (0,0))->w'.cell? ⟨C,0,none⟩=some (.slice a j cap)):=Lh (fun w' e=>cH e rfl)
   have HRL:=Lh (fun (w2:World) (hb2:Below wr.heap.size wr w2)=>prule_any P w0 HWP.out lj w2.drew ((HP.out.below hb2).below (Below.refl _ _).drew) (((HGB.out wr HM.out).below hb2).below (Below.refl _ _).drew))
   clear hlj hie
   cases hR1:parRule lj with
   | bad m =>
    have HRF:=Lh (show R=.bad m by rw [hrr,hR1];rfl)
    have HR1:=Lh hR1
    clear hrr hR1
    go_wp2_with fail
    refine HNX.out.mono ?_
    rintro e w2 ⟨rfl,hb2⟩
    have H2:=Lh hb2
    have hx2:=(hb2.block _ (gS HX.out).1).trans HX.out
    have HX2:=Lh hx2
    clear hb2 hx2
    go_wp2_with fail
    refine wp_region_U 4 (S:=fun w'=>w'.cell? ⟨C,0,none⟩=some (.slice a j cap)) (by kernel_rfl) (HK.out w2.drew HX2.out) (fun hHeld=>?_)
    refine tkU (i:=0) rfl hHeld ?_
    try simp only [Act.put,ub1,ub2,ub3]
    refine ready_U (rs:=[1]) (by kernel_rfl) (by simp) ?_
    refine cons_U rfl (fun K hK=>?_) nil_U
    go_simp
    refine hK.out _ _ ?_ (fun hHeld2=>?_)
    ·exact hHeld
    clear hK K hHeld
    have hHeld:=hHeld2
    clear hHeld2
    try simp only [Act.put,ub1,ub2,ub3]
    refine ready_U (rs:=[2]) (by kernel_rfl) (by simp) ?_
    refine cons_U rfl (fun K hK=>?_) nil_U
    go_simp
    refine (HRL.out w2 H2.out).mono ?_
    rintro e w3 hp
    obtain ⟨rfl,hm⟩:=hp.fails HR1.out
    exact ⟨rfl,StepR.bad HRF.out ((HM.out.trans (Chalk.Mod.of_below (S:=fun k=>k=C∨k=P) H2.out) (fun _ _ h=>h)).trans ((PAt.mod (Below.refl _ _).drew hm).mono (fun k h=>.inr h)) (fun _ _ h=>h))⟩
   | ok r r1 =>
    have HRF:=Lh (show R=(parRules r1).bind fun rs l=>.ok ((acc++[r])++rs) l by rw [hrr,hR1];simp only [Rs.bind];cases parRules r1 <;> simp)
    have HR1:=Lh hR1
    have HEA:=Lh (parRule_eat hR1).len
    clear hrr hR1
    go_wp2_with fail
    refine HNX.out.mono ?_
    rintro e w2 ⟨rfl,hb2⟩
    have H2:=Lh hb2
    have hx2:=(hb2.block _ (gS HX.out).1).trans HX.out
    have HX2:=Lh hx2
    clear hb2 hx2
    go_wp2_with fail
    refine wp_region_U 4 (S:=fun w'=>w'.cell? ⟨C,0,none⟩=some (.slice a j cap)) (by kernel_rfl) (HK.out w2.drew HX2.out) (fun hHeld=>?_)
    refine tkU (i:=0) rfl hHeld ?_
    try simp only [Act.put,ub1,ub2,ub3]
    refine ready_U (rs:=[1]) (by kernel_rfl) (by simp) ?_
    refine cons_U rfl (fun K hK=>?_) nil_U
    go_simp
    refine hK.out _ _ ?_ (fun hHeld2=>?_)
    ·exact hHeld
    clear hK K hHeld
    have hHeld:=hHeld2
    clear hHeld2
    try simp only [Act.put,ub1,ub2,ub3]
    refine ready_U (rs:=[2]) (by kernel_rfl) (by simp) ?_
    refine cons_U rfl (fun K hK=>?_) nil_U
    go_simp
    refine (HRL.out w2 H2.out).mono ?_
    rintro e w3 hp
    obtain ⟨x,rfl,hx,hp3,hm3⟩:=hp.gets HR1.out
    have hm23:=PAt.mod (P:=P) (Below.refl w2.heap.size w2).drew hm3
    have hm13:Chalk.Mod (fun k=>k=P) wr w3:=(Chalk.Mod.of_below (S:=fun k=>k=P) H2.out).trans hm23 (fun _ _ h=>h)
    have hx3:=heap_kept HX.out hm13 (by have:=H0.out.2.2.2.1;omega)
    have ho3:=HO.out.kept hm13 (fun k hk=>by have:=H0.out.2.2.2.2.1;omega)
    have hsz3:wr.heap.size<=w3.heap.size:=hm13.size
    have hfx:RulIn w3 (Fr wr.heap.size w3) r x:=hx.mono (fun k hk=>⟨Nat.le_trans H2.out.size hk.1,hk.2⟩)
    have H3:=Lh (aI hp3 (aI (HM.out.trans (hm13.mono (fun k h=>.inr h)) (fun _ _ h=>h)) (aI hx3 (aI ho3 (aI hfx hsz3)))))
    clear hp hx hp3 hm3 hm23 hm13 hx3 ho3 hfx hsz3
    go_simp
    refine hK.out _ _ ?_ (fun hHeld2=>?_)
    ·exact HK.out _ H3.out.2.2.1
    clear hK K hHeld
    have hHeld:=hHeld2
    clear hHeld2
    try simp only [Act.put,ub1,ub2,ub3]
    refine ready_U (rs:=[3]) (by kernel_rfl) (by simp) ?_
    refine cons_U rfl (fun K hK=>?_) nil_U
    go_simp
    obtain ⟨BR,hBR⟩:∃ BR,BR=w3.heap.size:=⟨_,rfl⟩
    obtain ⟨w4,hw4⟩:∃ w4,w4=w3.alloc (.cells #[.string ⟨r.name.toArray⟩,.bool r.hard,.int .i64 r.weight,.slice x.each.a r.each.length x.each.cap,.int .i64 r.body.kind,.string ⟨r.body.name.toArray⟩,.int .i64 r.body.n,.slice x.body.t.a r.body.terms.length x.body.t.cap,.slice x.body.b.a r.body.binds.length x.body.b.cap,.slice x.body.l.a r.body.l.length x.body.l.cap] 64):=⟨_,rfl⟩
    have hb4:Below w3.heap.size w3 w4:=by rw [hw4];exact below_new _ _
    have hrow:w4.heap[BR]?=some (.cells #[.string ⟨r.name.toArray⟩,.bool r.hard,.int .i64 r.weight,.slice x.each.a r.each.length x.each.cap,.int .i64 r.body.kind,.string ⟨r.body.name.toArray⟩,.int .i64 r.body.n,.slice x.body.t.a r.body.terms.length x.body.t.cap,.slice x.body.b.a r.body.binds.length x.body.b.cap,.slice x.body.l.a r.body.l.length x.body.l.cap] 64 (0,0)):=by rw [hw4,hBR];exact heap_alloc_new _ _
    rw [<- hBR,<- hw4]
    have hx4:=(hb4.block _ (gS H3.out.2.2.1).1).trans H3.out.2.2.1
    have ho4:=H3.out.2.2.2.1.kept (Chalk.Mod.of_below (S:=fun _=>False) hb4) (fun _ h=>h.elim)
    have hf4:RulIn w4 (Fr wr.heap.size w4) r x:=RulIn.modB H3.out.2.2.2.2.1 (Chalk.Mod.of_below (S:=fun _=>False) hb4) (fun _ h=>h.elim)
    have H4:=Lh (aI (H3.out.1.below hb4) (aI (H3.out.2.1.trans (Chalk.Mod.of_below (S:=fun k=>k=C∨k=P) hb4) (fun _ _ h=>h)) (aI hx4 (aI ho4 (aI hf4 (aI hrow (Nat.le_trans H3.out.2.2.2.2.2 hb4.size)))))))
    clear hb4 hrow hx4 ho4 hf4 hw4 hBR
    refine hK.out _ _ ?_ (fun hHeld2=>?_)
    ·exact HK.out _ H4.out.2.2.1
    clear hK K hHeld
    have hHeld:=hHeld2
    clear hHeld2
    try simp only [Act.put,ub1,ub2,ub3]
    refine ready_U (rs:=[4]) (by kernel_rfl) (by simp) ?_
    refine cons_V rfl (by kernel_rfl) (fun K hK=>?_) nil_U
    refine step_append_H (n:=j) rfl _ _ 38 rfl 64 i0 _ 10 160 Tryz.underlying38 hi hz0 hz1 hz2 rfl (by decide) (.slice a j cap) (acc.map Rul.toD) (by rw [List.length_map];exact HL.out) (Rul.toD r) (x.cells r) 64 rfl rfl H4.out.2.2.2.2.2.1 H4.out.2.2.2.1 HM.out.size H4.out.2.2.2.2.2.2 (DsAt.one_of' (RulIn.iff.2 ⟨x,rfl,H4.out.2.2.2.2.1⟩)) (Rul.width r) (by have:=HLN.out;unfold maxLen;omega) (by have:=HLN.out;omega) ?_
    intro ao cap5 w5 ho5 hm5
    have hx5:=heap_kept H4.out.2.2.1 hm5 (by have:=H0.out.2.2.2.1;have:=H0.out.2.2.2.2.1;omega)
    have hp5:PAt w5 P r1:=H4.out.1.far hm5 (fun k hk=>by have:=H0.out.2.2.2.2.1;omega)
    have H5:=Lh (aI hp5 (aI (H4.out.2.1.trans hm5 (fun i hi h=>absurd h (Nat.not_le.2 hi))) (aI hx5 ho5)))
    clear hx5 hp5 ho5 hm5
    refine hK.out _ _ ?_
    clear hK K hHeld
    try simp only [Act.put,ub1,ub2,ub3]
    refine ready_U (rs:=[5]) (by kernel_rfl) (by simp) ?_
    refine cons_V rfl (by kernel_rfl) (fun K hK=>?_) nil_U
    have c5:w5.cell? ⟨C,0,none⟩=some (.slice a j cap):=cH H5.out.2.2.1 rfl
    have f5:w5.frozen? ⟨C,0,none⟩=false:=fH H5.out.2.2.1
    have l5:C<w5.heap.size:=(gS H5.out.2.2.1).1
    go_simp
    refine hK.out _ _ ?_
    clear hK K
    try simp only [Act.put,ub1,ub2,ub3]
    refine done_U (by kernel_rfl) ?_ _
    go_wp2_with fail
    have h6:=box_store (i:=0) (.slice ao (j+1) cap5) H5.out.2.2.1
    have m6:Chalk.Mod (fun k=>k=C) w5 (w5.setCell ⟨C,0,none⟩ (.slice ao (j+1) cap5)):=(Chalk.Mod.refl (fun k=>k=C) w5).setCell (p:=⟨C,0,none⟩) (fun _=>rfl) _
    have s6:(w5.setCell ⟨C,0,none⟩ (.slice ao (j+1) cap5)).heap.size=w5.heap.size:=by simp
    generalize w5.setCell ⟨C,0,none⟩ (.slice ao (j+1) cap5)=w6 at h6 m6 s6 ⊢
    have hp6:=H5.out.1.low1 m6 H0.out.2.2.2.1 H5.out.2.2.1
    have ho6:=H5.out.2.2.2.kept m6 (fun k hk=>by have:=H0.out.2.2.2.1;have:=H0.out.2.2.2.2.1;omega)
    rw [<- s6] at ho6
    have H6:=Lh (aI h6 (aI ho6 (aI hp6 (H5.out.2.1.trans (m6.mono (fun k h=>.inl h)) (fun _ _ h=>h)))))
    clear h6 m6 s6 hp6 ho6 c5 f5 l5
    go_roundw
    case rel=>exact ⟨j+1,acc++[r],ao,cap5,r1,Lh (by simp [HL.out]),Lh H6.out.1,Lh (by simpa using H6.out.2.1),Lh H6.out.2.2.1,Lh H6.out.2.2.2,HRF,Lh (by have:=HLN.out;have:=HEA.out;omega)⟩
    case measure=>rw [H6.out.2.2.1.parLen,HP.out.parLen];exact HEA.out
end Go.Proofs.YtpmalchlecnjbaaGreatDoor
/- syntax: named, whole. -/
namespace Go.Chalk
open Go.RowKit
def oddB (b:Bnd):Bool:=!(nameB b.name&&decide (1<=b.sort)&&decide (b.sort<=7))
theorem each_odd (l:List Bnd):(l.any oddB) = !(l.all (fun b=>nameB b.name&&decide (1<=b.sort)&&decide (b.sort<=7))):=by
 rw [List.all_eq_not_any_not,Bool.not_not];rfl
end Go.Chalk
namespace Go.Proofs.YtpmalchlecnjbaaGreatDoor
open Go.RowKit Go.Chalk
attribute [local go_sem] Oper.semAt_some
structure RuFit (r:Rul):Prop where
 name:r.name.length<=4000000
 len:r.each.length<=1500000
 each:∀ b∈r.each,b.name.length<=4000000
 body:FrmFit r.body
theorem snamed_any (s:Bs) (w:World) (hg:GAt w):Calls Tryz.prog 106 #[.string ⟨s.toArray⟩] w fun e w'=>e=.returned (.bool (nameB s))/\Below w.heap.size w w':=by
 have hcv:=Lib.run_convert_string_bytes (P:=Tryz.prog) w 9 22 5 ⟨s.toArray⟩ Tryz.underlying9 Tryz.underlying22 Tryz.underlying5
 rw [size_mk] at hcv
 have hbw:=Lib.bytesWorld_below w 5 ⟨s.toArray⟩
 have HT:=Lh (tokens_any s _ _ _ _ _ (SB.of_text w 5 s) (grownCap_ge w s.length 0 5) (hg.below hbw))
 obtain ⟨R,hR⟩:∃ R,R=nameB s:=⟨_,rfl⟩
 have HR:Hid (R=namedF s):=Lh (by rw [hR,named_iff])
 rw [<- hR]
 have HRS:=Lh (fun (W:World) (hW:Below w.heap.size w W)=>reserved_any s W (hg.below hW))
 have HB:=Lh hbw
 clear hR hg hbw
 generalize hWB:Lib.bytesWorld w 5 ⟨s.toArray⟩=wb at hcv HT HB
 clear hWB
 go_enter Tryz.func106,Tryz.ntmps106
 go_wp2_with fail
 refine HT.out.mono ?_
 rintro e w1 ⟨v,q,rfl,hO,hq,hb1⟩
 obtain ⟨a2,b2,o2,cap2,rfl,hr2,hc2⟩:=hO.read
 obtain ⟨ts,hts⟩:∃ ts,ts=(tokensF s).1:=⟨_,rfl⟩
 obtain ⟨n0,hn0⟩:∃ n0,n0=(tokensF s).2.1:=⟨_,rfl⟩
 obtain ⟨er,her⟩:∃ er,er=(tokensF s).2.2:=⟨_,rfl⟩
 have HRF:Hid (R=((er==0)&&((ts.length==2)&&((headT ts).kind==1&&((headT ts).text==s&&!(reservedL.contains s)))))):=Lh (by rw [HR.out,hts,her];rfl)
 rw [<- hts] at hr2 hc2 ⊢
 rw [<- hn0,<- her]
 have HB1:=Lh (HB.out.trans (hb1.mono HB.out.size))
 clear hO hb1 hq hts hn0 her HR hcv
 by_cases h0:er=0
 ·subst h0
  by_cases h2:ts.length=2
  ·obtain ⟨t,u,rfl⟩:∃ t u,ts=[t,u]:=by
    rcases ts with _ | ⟨t,_ | ⟨u,_ | ⟨x,r⟩⟩⟩
    ·simp at h2
    ·simp at h2
    ·exact ⟨t,u,rfl⟩
    ·simp at h2
   obtain ⟨rfl,hbl⟩:=hr2.1 (by simp)
   obtain ⟨q0,q1,_⟩:=hr2.2 0 (by simp)
   obtain ⟨kt,xt,nt⟩:=t
   simp only [List.getElem_cons_zero,Nat.zero_mul,Nat.add_zero] at q0 q1
   rw [show [(⟨kt,xt,nt⟩:Tok),u].length=2 from rfl] at *
   have HRF2:Hid (R=((kt==1)&&((xt==s)&&!(reservedL.contains s)))):=Lh (by rw [HRF.out];simp [headT])
   clear hr2 h2 HRF
   by_cases hk:kt=1
   ·subst hk
    by_cases hx:xt=s
    ·subst hx
     have HRF3:Hid (R = !(reservedL.contains xt)):=Lh (by rw [HRF2.out];simp)
     clear HRF2
     have HRV:=Lh (HRS.out w1 HB1.out)
     generalize reservedL.contains xt=rb at HRV HRF3
     go_wp2_with fail
     refine HRV.out.mono ?_
     rintro e w2 ⟨rfl,hb2⟩
     have HB2:=Lh (HB1.out.trans (hb2.mono HB1.out.size))
     clear hb2
     go_wp2_with fail
     go_ret
     exact ⟨ret_bool HRF3.out.symm,HB2.out⟩
    ·have hx2:(xt==s)=false:=by simpa using hx
     have HRF3:Hid (R=false):=Lh (by rw [HRF2.out,hx2];simp)
     clear HRF2
     go_wp2_with fail
     go_ret
     exact ⟨ret_bool HRF3.out.symm,HB1.out⟩
   ·have hk2:(kt==1)=false:=by simpa using hk
    have HRF3:Hid (R=false):=Lh (by rw [HRF2.out,hk2];simp)
    clear HRF2
    go_wp2_with fail
    go_ret
    exact ⟨ret_bool HRF3.out.symm,HB1.out⟩
  ·have HRF3:Hid (R=false):=Lh (by rw [HRF.out,show (ts.length==2)=false by simpa using h2];simp)
   clear HRF hr2
   generalize ts.length=m at h2 hc2 ⊢
   have hm2:((m:Int)==2)=false:=by simp;omega
   go_wp2_with fail
   go_ret
   exact ⟨ret_bool HRF3.out.symm,HB1.out⟩
 ·have h02:(er==0)=false:=by simpa using h0
  have HRF3:Hid (R=false):=Lh (by rw [HRF.out,h02];simp)
  clear HRF hr2
  generalize ts.length=m at hc2 ⊢
  go_wp2_with fail
  go_ret
  exact ⟨ret_bool HRF3.out.symm,HB1.out⟩
theorem swhole1_any (b:Bnd) (w:World) (hg:GAt w):Calls Tryz.prog 105 #[.agg #[.string ⟨b.name.toArray⟩,.int .i64 b.sort]] w (Answers w (oddB b)):=by
 obtain ⟨nm,sort⟩:=b
 obtain ⟨R,hR⟩:∃ R,R=oddB ⟨nm,sort⟩:=⟨_,rfl⟩
 rw [<- hR]
 obtain ⟨W1,hW1⟩:∃ W1,W1=w.alloc (.cells #[.string ⟨nm.toArray⟩,.int .i64 sort] 74):=⟨_,rfl⟩
 have hb1:Below w.heap.size w W1:=by rw [hW1];exact below_new _ _
 have hbx:W1.heap[w.heap.size]?=some (.cells #[.string ⟨nm.toArray⟩,.int .i64 sort] 74 (0,0)):=by rw [hW1];exact heap_alloc_new _ _
 have HN:=Lh (snamed_any nm W1 (hg.below hb1))
 have HR:Hid (R = !(nameB nm&&decide (1<=sort)&&decide (sort<=7))):=Lh hR
 have HB:=Lh (aI hb1 hbx)
 have HW:=Lh hW1
 clear hR hb1 hbx hg hW1
 generalize nameB nm=nb at HN HR
 go_enter Tryz.func105,Tryz.ntmps105
 go_wp2_with fail
 rw [<- HW.out]
 refine HN.out.mono ?_
 rintro e w2 ⟨rfl,hb2⟩
 have hx2:=(hb2.block w.heap.size (gS HB.out.2).1).trans HB.out.2
 have c1:w2.cell? ⟨w.heap.size,1,none⟩=some (.int .i64 sort):=cH hx2 rfl
 have HB2:=Lh (HB.out.1.trans (hb2.mono HB.out.1.size))
 clear hb2 hx2
 cases nb
 ·go_wp2_with fail
  go_ret
  exact ⟨ret_bool (by rw [HR.out];rfl),HB2.out⟩
 ·by_cases h1:sort<1
  ·have HH:=Lh (show ¬ (1<=sort) by omega)
   go_wp2_with fail
   go_ret
   exact ⟨ret_bool (by rw [HR.out,decide_eq_false (by have:=HH.out;omega)];rfl),HB2.out⟩
  ·have HH:=Lh (show 1<=sort by omega)
   have h1':decide (sort<1)=false:=decide_eq_false h1
   by_cases h7:7<sort
   ·have HH7:=Lh (show ¬ (sort<=7) by omega)
    go_wp2_with fail
    go_ret
    exact ⟨ret_bool (by rw [HR.out,decide_eq_false (show ¬ (sort<=7) by have:=HH7.out;omega)];simp),HB2.out⟩
   ·have HH7:=Lh (show sort<=7 by omega)
    have h7':decide (7<sort)=false:=decide_eq_false h7
    go_wp2_with fail
    go_ret
    exact ⟨ret_bool (by rw [HR.out,decide_eq_true HH7.out,decide_eq_true HH.out];rfl),HB2.out⟩
theorem sodd_any (l:List Bnd) (x:SlA) (w:World) (hx:SlIn w (·<w.heap.size) (l.map Bnd.toD) x) (hl:l.length<=2000000) (hg:GAt w) :
  Calls Tryz.prog 107 #[.slice x.a l.length x.cap,.func (.func 105) #[] #[]] w fun e w'=>e=.returned (.bool (l.any oddB))/\Below w.heap.size w w':=by
 obtain ⟨g1,_,_,g4,g5⟩:=hx.flat Bnd.flatT
 rw [<- any_range]
 refine containsFunc_Bnd 105 #[] (fun j=>(l[j]?.map oddB).getD false) l.length (fun j=>.string ⟨(l[j]?.map (·.name.toArray)).getD #[]⟩) (fun j=>.int .i64 ((l[j]?.map (·.sort)).getD 0)) x.a x.b x.o x.cap w g1 ?_ ?_ (fun _ _=>enters_of Tryz.func105 (by kernel_rfl) rfl _ _) hl
 ·intro j hj
  have h:=g4.two j hj rfl
  rw [List.getElem?_eq_getElem hj]
  exact h
 ·intro j hj W hW
  rw [List.getElem?_eq_getElem hj]
  exact swhole1_any l[j] W (hg.below hW)
theorem swhole_any (r:Rul) (y:RulA) (w:World) (hy:RulIn w (·<w.heap.size) r y) (hl:r.each.length<=1500000) (hg:GAt w) :
  Calls Tryz.prog 52 #[.agg (y.cells r).toArray] w fun e w'=>e=.returned (.bool (wholeR r))/\Below w.heap.size w w':=by
 obtain ⟨R,hR⟩:∃ R,R=wholeR r:=⟨_,rfl⟩
 rw [<- hR]
 obtain ⟨W1,hW1⟩:∃ W1,W1=w.alloc (.cells (y.cells r).toArray 64):=⟨_,rfl⟩
 have hba:Below w.heap.size w W1:=by rw [hW1];exact below_new _ _
 have hbx:W1.heap[w.heap.size]?=some (.cells (y.cells r).toArray 64 (0,0)):=by rw [hW1];exact heap_alloc_new _ _
 have HN:=Lh (snamed_any r.name W1 (hg.below hba))
 have HO:=Lh (fun (W:World) (hW:Below w.heap.size w W)=>sodd_any r.each y.each W (hy.each.later hW hW.size) (by omega) (hg.below hW))
 have HR:Hid (R=(nameB r.name&&decide ((if r.hard then 0 else 1)<=r.weight)&&decide (r.weight<=(if r.hard then 0 else 1000))&&decide (r.each.length<=6)&&!(r.each.any oddB))):=Lh (by rw [hR,wholeR,each_odd,Bool.not_not])
 have HB:=Lh (aI hba hbx)
 have HW:=Lh hW1
 have hen:∀ args w,(callFunc 107 args).run Tryz.prog w=.ok (.enter 107 args) w:=enters_of Tryz.func107 (by kernel_rfl) rfl
 clear hy hba hbx hg hR hW1
 obtain ⟨name,hard,weight,each,⟨kind,fname,n,terms,binds,fl⟩⟩:=r
 obtain ⟨ye,yb⟩:=y
 simp only at HN HO HR hl
 generalize nameB name=bo at HN HR
 generalize each.any oddB=eb at HO HR
 simp only [RulA.cells,FrmA.cells,SlA.val,Frm.kind,Frm.name,Frm.n,Frm.terms,Frm.binds,Frm.l] at HB HO HW ⊢
 have HK:Hid (∀ W':World,Below W1.heap.size W1 W'->W'.cell? ⟨w.heap.size,2,none⟩=some (.int .i64 weight)/\W'.cell? ⟨w.heap.size,3,none⟩=some (.slice ye.a each.length ye.cap)/\Below w.heap.size w W'):=Lh (fun W' hW=>by
  have hx2:=(hW.block w.heap.size (gS HB.out.2).1).trans HB.out.2
  exact ⟨cH hx2 rfl,cH hx2 rfl,HB.out.1.trans (hW.mono HB.out.1.size)⟩)
 generalize each.length=m at HO HR HB HK hl HW ⊢
 cases hard
 ·have HR2:Hid (R=(bo&&decide ((1:Int)<=weight)&&decide (weight<=(1000:Int))&&decide (m<=6)&&!eb)):=Lh (by rw [HR.out];rfl)
  clear HR
  have HR:=HR2
  clear HR2
  go_enter Tryz.func52,Tryz.ntmps52
  go_wp2_with fail
  rw [<- HW.out]
  refine HN.out.mono ?_
  rintro e w2 ⟨rfl,hb2⟩
  obtain ⟨c2,c3,hb⟩:=HK.out w2 hb2
  have HB2:=Lh hb
  clear hb2 hb
  cases bo
  ·go_wp2_with fail
   go_ret
   exact ⟨ret_bool (by rw [HR.out];rfl),HB2.out⟩
  ·by_cases h1:(1:Int)<=weight
   rotate_left
   ·have h1':decide ((1:Int)<=weight)=false:=decide_eq_false h1
    have HH:=Lh h1
    go_wp2_with fail
    go_ret
    exact ⟨ret_bool (by rw [HR.out,decide_eq_false (by have:=HH.out;omega)];rfl),HB2.out⟩
   have HH1:=Lh h1
   by_cases h2:weight<=(1000:Int)
   rotate_left
   ·have h2':decide (weight<=(1000:Int))=false:=decide_eq_false h2
    have HH:=Lh h2
    go_wp2_with fail
    go_ret
    exact ⟨ret_bool (by rw [HR.out,decide_eq_false (show ¬ (weight<=(1000:Int)) by have:=HH.out;omega)];simp),HB2.out⟩
   have HH2:=Lh h2
   by_cases h3:m<=6
   rotate_left
   ·have h3':decide ((m:Int)<=6)=false:=decide_eq_false (by omega)
    have HH:=Lh h3
    go_wp2_with fail
    go_ret
    exact ⟨ret_bool (by rw [HR.out,decide_eq_false (show ¬ (m<=6) by have:=HH.out;omega)];simp),HB2.out⟩
   have HH3:=Lh h3
   have h3':(m:Int)<=6:=by omega
   go_wp2_with fail
   refine (HO.out w2 HB2.out).mono ?_
   rintro e w3 ⟨rfl,hb3⟩
   have HB3:=Lh (HB2.out.trans (hb3.mono HB2.out.size))
   clear hb3
   go_wp2_with fail
   go_ret
   exact ⟨ret_bool (by rw [HR.out,decide_eq_true HH3.out,decide_eq_true HH1.out,decide_eq_true HH2.out];rfl),HB3.out⟩
 ·have HR2:Hid (R=(bo&&decide ((0:Int)<=weight)&&decide (weight<=(0:Int))&&decide (m<=6)&&!eb)):=Lh (by rw [HR.out];rfl)
  clear HR
  have HR:=HR2
  clear HR2
  go_enter Tryz.func52,Tryz.ntmps52
  go_wp2_with fail
  rw [<- HW.out]
  refine HN.out.mono ?_
  rintro e w2 ⟨rfl,hb2⟩
  obtain ⟨c2,c3,hb⟩:=HK.out w2 hb2
  have HB2:=Lh hb
  clear hb2 hb
  cases bo
  ·go_wp2_with fail
   go_ret
   exact ⟨ret_bool (by rw [HR.out];rfl),HB2.out⟩
  ·by_cases h1:(0:Int)<=weight
   rotate_left
   ·have h1':decide ((0:Int)<=weight)=false:=decide_eq_false h1
    have HH:=Lh h1
    go_wp2_with fail
    go_ret
    exact ⟨ret_bool (by rw [HR.out,decide_eq_false (by have:=HH.out;omega)];rfl),HB2.out⟩
   have HH1:=Lh h1
   by_cases h2:weight<=(0:Int)
   rotate_left
   ·have h2':decide (weight<=(0:Int))=false:=decide_eq_false h2
    have HH:=Lh h2
    go_wp2_with fail
    go_ret
    exact ⟨ret_bool (by rw [HR.out,decide_eq_false (show ¬ (weight<=(0:Int)) by have:=HH.out;omega)];simp),HB2.out⟩
   have HH2:=Lh h2
   by_cases h3:m<=6
   rotate_left
   ·have h3':decide ((m:Int)<=6)=false:=decide_eq_false (by omega)
    have HH:=Lh h3
    go_wp2_with fail
    go_ret
    exact ⟨ret_bool (by rw [HR.out,decide_eq_false (show ¬ (m<=6) by have:=HH.out;omega)];simp),HB2.out⟩
   have HH3:=Lh h3
   have h3':(m:Int)<=6:=by omega
   go_wp2_with fail
   refine (HO.out w2 HB2.out).mono ?_
   rintro e w3 ⟨rfl,hb3⟩
   have HB3:=Lh (HB2.out.trans (hb3.mono HB2.out.size))
   clear hb3
   go_wp2_with fail
   go_ret
   exact ⟨ret_bool (by rw [HR.out,decide_eq_true HH3.out,decide_eq_true HH1.out,decide_eq_true HH2.out];rfl),HB3.out⟩
end Go.Proofs.YtpmalchlecnjbaaGreatDoor
/- syntax.Check. (written by tools/gen_pcb.py) -/
namespace Go.Chalk
open Go.RowKit
theorem rules_len {l:List Rul} {j:Nat} (h:j<l.length) (hw:wholeR l[j]=true) (hc:frmCheck l[j].body=0) (hl:(txtRules (l.take j)).length<=j*200000):(txtRules (l.take (j+1))).length<=(j+1)*200000/\(txtRules (l.take j)).length+(txtRule l[j]).length<=(j+1)*200000:=by
 obtain ⟨h1,h2,_⟩:=frmCheck_wf hc
 have:=txtRule_len hw h1
 rw [txtRules_take h,List.length_append]
 omega
def goStep (wh cn:Bool) (fc rest:Int):Int:=if wh=false∨cn=true then 1 else if fc ≠ 0 then fc else rest
theorem goStep_bad (c:Bool) (f r:Int):goStep false c f r=1:=by simp [goStep]
theorem goStep_twice (w:Bool) (f r:Int):goStep w true f r=1:=by simp [goStep]
theorem goStep_err {f:Int} (h:f ≠ 0) (r:Int):goStep true false f r=f:=by simp [goStep,h]
theorem goStep_next (r:Int):goStep true false 0 r=r:=by simp [goStep]
def goEnd (g:Int) (t:Bs):Int:=if g ≠ 0 then g else if 16384<t.length then 2 else 0
theorem goEnd_err {g:Int} (h:g ≠ 0) (t:Bs):goEnd g t=g:=by simp [goEnd,h]
theorem goEnd_told (t:Bs):goEnd 0 t=(if 16384<t.length then 2 else 0):=by simp [goEnd]
theorem whole_weight {r:Rul} (h:wholeR r=true):0<=r.weight/\r.weight<=9223372036854775807:=by
 obtain ⟨_,h1,h2,_,_⟩:=wholeR_iff h
 cases hh:r.hard <;> rw [hh] at h1 h2 <;> simp at h1 h2 <;> omega
end Go.Chalk
namespace Go.Proofs.YtpmalchlecnjbaaGreatDoor
open Go.RowKit Go.Chalk
attribute [local go_sem] Oper.semAt_some
theorem WAt.low {w w':World} {P C:Nat} {l:Bs} (h:WAt w P l) (hm:Chalk.Mod (fun k=>k=C) w w') (hC:C<P):WAt w' P l:=by
 obtain ⟨p,v,h1,h2,h3,h4⟩:=h
 exact ⟨p,v,h1,heap_kept h2 hm (by omega),row_other h3 (fun k hk=>hm.block k (h3.lt k hk).2 (by have:=(h3.lt k hk).1;omega)),h4⟩
theorem scheck_any (l:List Rul) (x:SlA) (w:World) (hx:SlIn w (·<w.heap.size) (l.map Rul.toD) x) (hl:l.length<=2000000) (hf:∀ r∈l,RuFit r) (hg:GS w) :
  Calls Tryz.prog 25 #[.slice x.a l.length x.cap] w fun e w'=>e=.returned (.int .i64 (synCheck l))/\Below w.heap.size w w':=by
 by_cases hbig:64<l.length
 ·have hbig':(64:Int)<(l.length:Int):=by omega
  have HR:Hid (synCheck l=2):=Lh (by unfold synCheck;rw [if_pos hbig])
  clear hbig hx hf hg
  generalize synCheck l=R at HR ⊢
  go_enter Tryz.func25,Tryz.ntmps25
  go_wp2_with fail
  go_ret
  exact ⟨ret_int HR.out.symm,Below.refl _ _⟩
 have hbig':decide ((64:Int)<(l.length:Int))=false:=decide_eq_false (by omega)
 have hbig2:¬ ((64:Int)<(l.length:Int)):=by omega
 have HR:Hid (synCheck l=goEnd (synGo [] l) (txtRules l)):=Lh (by unfold synCheck;rw [if_neg hbig];rfl)
 generalize synCheck l=R at HR ⊢
 obtain ⟨MB,hMB⟩:∃ MB,MB=w.heap.size:=⟨_,rfl⟩
 have HIN:Hid (∀ (j:Nat) (hj:j<l.length),∃ y:RulA,RulIn w (·<MB) l[j] y/\CellsAt w x.b (x.o+j*10) (y.cells l[j])):=Lh (fun j hj=>by rw [hMB];exact hx.rul j hj)
 have HSL:Hid (SlAt (·<MB) x.a x.b x.o l.length):=Lh (by rw [hMB];have:=hx.at_;rwa [List.length_map] at this)
 have HFT:=Lh (fun (j:Nat) (hj:j<l.length)=>hf _ (List.getElem_mem hj))
 obtain ⟨W0,hW0⟩:∃ W0,W0=(w.alloc (.map #[] 0)).alloc (.cells #[.pointer none,.slice none 0 0] 79):=⟨_,rfl⟩
 have hb0:Below MB w W0:=by rw [hW0,hMB];exact (((Below.refl _ _).alloc (Nat.le_refl _) _).alloc (by simp) _)
 have hset0:SetAt W0 MB []:=by rw [hW0,hMB];exact (Below.heap_alloc _ _ _ (by simp)).trans (setAt_new w)
 have hwat0:WAt W0 (MB+1) []:=by
  have h:=wAt_new (w.alloc (.map #[] 0))
  rw [hW0,hMB]
  simpa using h
 have H0:=Lh (aI hb0 (aI hset0 (aI hwat0 (aI hg hMB))))
 have HW0:=Lh hW0
 have HMB:=Lh hMB
 have HBG:=Lh (show l.length<=64 by omega)
 have hmm := @run_makeMap Tryz.prog
 rw [<- hMB]
 clear hx hf hg hW0 hb0 hset0 hwat0 hMB hl hbig
 go_enter Tryz.func25,Tryz.ntmps25
 go_wp2_with fail
 rw [<- HW0.out,<- HMB.out]
 go_loopw [16] (fun i wr=>∃ j:Nat,j<=l.length/\i=.int .i64 j/\Hid (Below MB w wr)/\Hid (SetAt wr MB ((l.take j).map Rul.name))/\Hid (WAt wr (MB+1) (txtRules (l.take j)))/\Hid (synGo [] l=synGo ((l.take j).map Rul.name) (l.drop j))/\Hid ((txtRules (l.take j)).length<=j*200000)) (fun i _=>l.length - (intOf i).toNat)
 case atStart=>exact ⟨0,Nat.zero_le _,rfl,Lh H0.out.1,Lh H0.out.2.1,Lh H0.out.2.2.1,Lh rfl,Lh (by simp [txtRules])⟩
 case round =>
  obtain ⟨j,hj,rfl,HB,HSET,HWA,HE,HLN⟩:=hrel
  by_cases hlt:j<l.length
  ·obtain ⟨y,hy1,hy2⟩:=HIN.out j hlt
   obtain ⟨hxa,hFb⟩:=HSL.out (by omega)
   have hys:=hy2.agree (agree_of_below HB.out) hFb
   have hszr:MB+1<wr.heap.size:=HWA.out.lt
   obtain ⟨BB,hBB⟩:∃ BB,BB=wr.heap.size:=⟨_,rfl⟩
   obtain ⟨WB,hWB⟩:∃ WB,WB=wr.alloc (.cells (y.cells l[j]).toArray 64):=⟨_,rfl⟩
   have hbb:Below wr.heap.size wr WB:=by rw [hWB];exact below_new _ _
   have hbx:WB.heap[BB]?=some (.cells (y.cells l[j]).toArray 64 (0,0)):=by rw [hWB,hBB];exact heap_alloc_new _ _
   have hMBe:=HMB.out
   have hbw:Below MB w WB:=HB.out.trans (hbb.mono (by omega))
   have hyw:∀ W:World,Below MB w W->RulIn W (·<MB) l[j] y:=fun W hW=>hy1.agree (agree_of_below hW)
   have HBX:=Lh (aI hbx (aI (show MB+1<BB by omega) (aI hbw (HWA.out.below hbb))))
   have HST:Hid (SetAt WB MB ((l.take j).map Rul.name)):=Lh ((hbb.block MB (by omega)).trans HSET.out)
   have HCW:=Lh (swhole_any l[j] y WB ((hyw WB hbw).mono (fun k hk=>by have:=hbw.size;omega)) (HFT.out j hlt).len (H0.out.2.2.2.1.gat.below (by rw [<- hMBe];exact hbw)))
   have HCF:=Lh (fun (W:World) (hW:Below MB w W)=>fcheck_any l[j].body y.body W (((hyw W hW).body).mono (fun k hk=>by have:=hW.size;omega)) (HFT.out j hlt).body (H0.out.2.2.2.1.below (by rw [<- hMBe];exact hW)).gg)
   have HCR:=Lh (fun (W:World) (hW:Below MB w W) (hwa:WAt W (MB+1) (txtRules (l.take j))) (h1:wholeR l[j]=true) (h2:frmCheck l[j].body=0)=>wrule_any w H0.out.2.2.2.1 (MB+1) (by omega) l[j] y (txtRules (l.take j)) W (whole_weight h1) (by have:=(wholeR_iff h1).2.2.2.1;omega) (frmCheck_wf h2).1 (by rw [<- hMBe];exact hW) hwa ((hyw W hW).mono (fun k hk=>by omega)) (by have:=(rules_len hlt h1 h2 HLN.out).2;have:=HBG.out;unfold maxTx;omega))
   have HLN2:=Lh (fun (h1:wholeR l[j]=true) (h2:frmCheck l[j].body=0)=>(rules_len hlt h1 h2 HLN.out).1)
   have HTT:=Lh (txtRules_take hlt)
   have HTK:Hid ((l.take (j+1)).map Rul.name=(l.take j).map Rul.name++[l[j].name]):=Lh (by rw [List.take_succ_eq_append_getElem hlt,List.map_append];rfl)
   have HE2:=Lh (show synGo [] l=goStep (wholeR l[j]) (((l.take j).map Rul.name).contains l[j].name) (frmCheck l[j].body) (synGo (((l.take j).map Rul.name)++[l[j].name]) (l.drop (j+1))) by rw [HE.out,List.drop_eq_getElem_cons hlt,synGo_step];rfl)
   have HWB:=Lh hWB
   have HBB:=Lh hBB
   rw [hxa]
   clear hy1 hy2 hFb hbw hszr hBB hWB hbb hbx hMBe hyw
   generalize l[j]=re at HCW HCF HCR HLN2 HTT HTK HE2 HWB HBX hys
   obtain ⟨name,hard,weight,each,⟨kind,fname,n,terms,binds,fl⟩⟩:=re
   obtain ⟨ye,yb⟩:=y
   simp only [ndV,RulA.cells,FrmA.cells,SlA.val,Frm.kind,Frm.name,Frm.n,Frm.terms,Frm.binds,Frm.l] at HCW HCF HCR HLN2 HTT HTK HE2 HWB HBX hys
   obtain ⟨e0,e1,e2,e3,e4,e5,e6,e7,e8,e9⟩:=hys.ten
   clear hys
   generalize hmet:(l.take j).map Rul.name=met at HST HE2 HTK
   generalize htx:txtRules (l.take j)=tx at HBX HCR HTT
   generalize hwh:wholeR ⟨name,hard,weight,each,⟨kind,fname,n,terms,binds,fl⟩⟩=wh at HCW HCR HLN2 HE2
   generalize hfc:frmCheck ⟨kind,fname,n,terms,binds,fl⟩=fc at HCF HCR HLN2 HE2
   clear hmet htx hwh hfc HSET HWA HE HLN
   go_wp2_with fail
   rw [<- HWB.out,<- HBB.out]
   refine HCW.out.mono ?_
   rintro e w1 ⟨rfl,hb1⟩
   have hbx1:=(hb1.block BB (gS HBX.out.1).1).trans HBX.out.1
   have hset1:SetAt w1 MB met:=(hb1.block MB (by have:=(gS HBX.out.1).1;have:=HBX.out.2.1;omega)).trans HST.out
   have hbm1:Below MB w w1:=HBX.out.2.2.1.trans (hb1.mono (by have:=HBX.out.2.2.1.size;have:=HMB.out;omega))
   have H1:=Lh (aI hbx1 (aI hset1 (aI hbm1 (HBX.out.2.2.2.below hb1))))
   clear hb1 hset1 hbm1
   cases wh
   ·have HD:=Lh (show R=1 by rw [HR.out,HE2.out,goStep_bad];rfl)
    clear hbx1 HCR HLN2
    go_wp2_with fail
    go_ret
    exact ⟨ret_int HD.out.symm,H1.out.2.2.1⟩
   have q0:w1.cell? ⟨BB,0,none⟩=some (.string ⟨name.toArray⟩):=cH hbx1 rfl
   have hlk:=set_look (P:=Tryz.prog) w1 86 _ _ MB met name Tryz.underlying86 Tryz.underlying9 Tryz.zeroValue4 H1.out.2.1
   clear hbx1
   cases hcn:met.contains name
   rotate_left
   ·rw [hcn] at hlk
    have HD:=Lh (show R=1 by rw [HR.out,HE2.out,hcn,goStep_twice];rfl)
    clear hcn HCR HLN2
    go_wp2_with fail
    go_ret
    exact ⟨ret_int HD.out.symm,H1.out.2.2.1⟩
   rw [hcn] at hlk
   have HCN:=Lh hcn
   clear hcn
   have HF:=Lh (HCF.out w1 H1.out.2.2.1)
   have hbx1:=H1.out.1
   have q1:w1.cell? ⟨BB,1,none⟩=some (.bool hard):=cH hbx1 rfl
   have q2:w1.cell? ⟨BB,2,none⟩=some (.int .i64 weight):=cH hbx1 rfl
   have q3:w1.cell? ⟨BB,3,none⟩=some (.slice ye.a each.length ye.cap):=cH hbx1 rfl
   have q4:w1.cell? ⟨BB,4,none⟩=some (.int .i64 kind):=cH hbx1 rfl
   have q5:w1.cell? ⟨BB,5,none⟩=some (.string ⟨fname.toArray⟩):=cH hbx1 rfl
   have q6:w1.cell? ⟨BB,6,none⟩=some (.int .i64 n):=cH hbx1 rfl
   have q7:w1.cell? ⟨BB,7,none⟩=some (.slice yb.t.a terms.length yb.t.cap):=cH hbx1 rfl
   have q8:w1.cell? ⟨BB,8,none⟩=some (.slice yb.b.a binds.length yb.b.cap):=cH hbx1 rfl
   have q9:w1.cell? ⟨BB,9,none⟩=some (.slice yb.l.a fl.length yb.l.cap):=cH hbx1 rfl
   clear hbx1
   go_wp2_with fail
   refine HF.out.mono ?_
   rintro e w2 ⟨rfl,hb2⟩
   have hbx2:=(hb2.block BB (gS H1.out.1).1).trans H1.out.1
   have hset2:SetAt w2 MB met:=(hb2.block MB (by have:=(gS H1.out.1).1;have:=HBX.out.2.1;omega)).trans H1.out.2.1
   have hbm2:Below MB w w2:=H1.out.2.2.1.trans (hb2.mono (by have:=H1.out.2.2.1.size;have:=HMB.out;omega))
   have H2:=Lh (aI hbx2 (aI hset2 (aI hbm2 (H1.out.2.2.2.below hb2))))
   clear hb2 hset2 hbm2 hlk
   clear q0 q1 q2 q3 q4 q5 q6 q7 q8 q9
   by_cases hc0:fc=0
   rotate_left
   ·have hc1:(fc==0)=false:=by simpa using hc0
    have HD:=Lh (show R=fc by rw [HR.out,HE2.out,HCN.out,goStep_err hc0,goEnd_err hc0])
    clear hbx2 HCR HLN2
    go_wp2_with fail
    go_ret
    exact ⟨ret_int HD.out.symm,H2.out.2.2.1⟩
   subst hc0
   have HLN3:=Lh (HLN2.out (by first | rfl | trivial) (by first | rfl | trivial))
   have HCR2:=Lh (fun (W:World) (hW:Below MB w W) (hwa:WAt W (MB+1) tx)=>HCR.out W hW hwa (by first | rfl | trivial) (by first | rfl | trivial))
   have HE3:=Lh (show synGo [] l=synGo (met++[name]) (l.drop (j+1)) by rw [HE2.out,HCN.out,goStep_next])
   have hput:=set_put (P:=Tryz.prog) w2 86 _ _ MB met name Tryz.underlying86 Tryz.underlying9 H2.out.2.1 HCN.out
   obtain ⟨W3,hW3⟩:∃ W3,W3=w2.putObj MB (.map (setL 0 (met++[name])).toArray (met++[name]).length):=⟨_,rfl⟩
   rw [<- hW3] at hput
   have hm3:Chalk.Mod (fun k=>k=MB) w2 W3:=by rw [hW3];exact Chalk.Mod.putObj _ _ _
   have hset3:SetAt W3 MB (met++[name]):=by
    rw [hW3]
    show (World.putObj _ _ _).heap[_]?=_
    rw [World.putObj_heap_same (gS H2.out.2.1).1]
   have hbx3:=heap_kept H2.out.1 hm3 (by have:=HBX.out.2.1;omega)
   have hbm3:Below MB w W3:=H2.out.2.2.1.trans (hm3.below (by have:=H2.out.2.2.1.size;have:=HMB.out;omega) (fun k hk=>by omega))
   have H3:=Lh (aI hbx3 (aI hset3 (aI hbm3 (H2.out.2.2.2.low hm3 (by omega)))))
   have q0:w2.cell? ⟨BB,0,none⟩=some (.string ⟨name.toArray⟩):=cH hbx2 rfl
   have r0:W3.cell? ⟨BB,0,none⟩=some (.string ⟨name.toArray⟩):=cH hbx3 rfl
   have r1:W3.cell? ⟨BB,1,none⟩=some (.bool hard):=cH hbx3 rfl
   have r2:W3.cell? ⟨BB,2,none⟩=some (.int .i64 weight):=cH hbx3 rfl
   have r3:W3.cell? ⟨BB,3,none⟩=some (.slice ye.a each.length ye.cap):=cH hbx3 rfl
   have r4:W3.cell? ⟨BB,4,none⟩=some (.int .i64 kind):=cH hbx3 rfl
   have r5:W3.cell? ⟨BB,5,none⟩=some (.string ⟨fname.toArray⟩):=cH hbx3 rfl
   have r6:W3.cell? ⟨BB,6,none⟩=some (.int .i64 n):=cH hbx3 rfl
   have r7:W3.cell? ⟨BB,7,none⟩=some (.slice yb.t.a terms.length yb.t.cap):=cH hbx3 rfl
   have r8:W3.cell? ⟨BB,8,none⟩=some (.slice yb.b.a binds.length yb.b.cap):=cH hbx3 rfl
   have r9:W3.cell? ⟨BB,9,none⟩=some (.slice yb.l.a fl.length yb.l.cap):=cH hbx3 rfl
   have HRL:=Lh (HCR2.out W3 H3.out.2.2.1 H3.out.2.2.2)
   clear hW3 hm3 hset3 hbm3 hbx2 HCR HLN2 HCR2
   go_wp2_with fail
   refine HRL.out.mono ?_
   rintro e w4 ⟨rfl,hwa4,hwr4⟩
   have hset4:SetAt w4 MB (met++[name]):=(hwr4.low MB (by omega)).trans H3.out.2.1
   have hbm4:Below MB w w4:=H3.out.2.2.1.trans (hwr4.below.mono (by omega))
   have H4:=Lh (aI hset4 (aI hwa4 hbm4))
   clear hset4 hwa4 hwr4 hbm4 hput hbx3 q0 r0 r1 r2 r3 r4 r5 r6 r7 r8 r9
   go_wp2_with fail
   exact ⟨⟨j+1,by omega,by go_num,Lh H4.out.2.2,Lh (by rw [HTK.out];exact H4.out.1),Lh (by rw [HTT.out];exact H4.out.2.1),Lh (by rw [HTK.out];exact HE3.out),HLN3⟩,by simp [intOf];omega⟩
  ·have hjl:j=l.length:=by omega
   have HJ:=Lh hjl
   have HTL:=Lh (show synGo [] l=0 by rw [HE.out,hjl,List.drop_length,synGo])
   have HT:=Lh (told_any (MB+1) (txtRules l) wr (by have h:=HWA.out;rwa [hjl,List.take_length] at h) (by have h:=HLN.out;rw [hjl,List.take_length] at h;have:=HBG.out;omega))
   have HRR:Hid (R=(toldF (txtRules l)).2):=Lh (by rw [HR.out,HTL.out,goEnd_told];unfold toldF;split <;> rfl)
   obtain ⟨t2,ht2⟩:∃ t2,t2=(toldF (txtRules l)).2:=⟨_,rfl⟩
   have HT2:=Lh ht2
   clear hjl ht2
   go_wp2_with fail
   refine HT.out.mono ?_
   rintro e w2 ⟨v,rfl,_,hb2⟩
   rw [<- HT2.out]
   have HB2:=Lh (HB.out.trans (hb2.mono (by omega)))
   clear hb2
   go_wp2_with fail
   go_ret
   exact ⟨ret_int (by rw [HRR.out,HT2.out]),HB2.out⟩
end Go.Proofs.YtpmalchlecnjbaaGreatDoor
/- syntax.Parse. -/
namespace Go.Proofs.YtpmalchlecnjbaaGreatDoor
open Go.RowKit Go.Chalk
attribute [local go_sem] Oper.semAt_some
theorem parRule_fit {l t:List Tok} {r:Rul} (h:parRule l=.ok r t) (hs:Short l) (hl:l.length<=16385):RuFit r:=by
 unfold parRule at h
 obtain ⟨hd,l1,h1,h⟩:=Rs.bind_ok.1 h
 obtain ⟨es,l2,h2,h⟩:=Rs.bind_ok.1 h
 obtain ⟨u,l3,h3,h⟩:=Rs.bind_ok.1 h
 obtain ⟨f,l4,h4,h⟩:=Rs.bind_ok.1 h
 obtain ⟨v,l5,h5,h⟩:=Rs.bind_ok.1 h
 cases h
 have e1:=(pHead_eat h1).z
 have e2:=pEach_eat h2
 have e3:=(pWant_eat h3).z
 have s1:=hs.eat e1
 have hn:hd.2.1.length<=16384:=by
  unfold pHead at h1
  split at h1
  ·obtain ⟨s,q,g1,h1⟩:=Rs.bind_ok.1 h1
   cases h1
   exact pName_short g1 hs.tail
  ·split at h1
   ·obtain ⟨s,q,g1,h1⟩:=Rs.bind_ok.1 h1
    obtain ⟨n,q2,g2,h1⟩:=Rs.bind_ok.1 h1
    cases h1
    exact pName_short g1 hs.tail
   ·cases h1
 have hb:es.length<=6/\∀ b∈es,b.name.length<=16384:=by
  split at h2
  ·exact pBinds_short 6 _ _ _ h2 s1.tail
  ·cases h2;simp
 have:=e1.len
 have:=e2.len
 have:=e3.len
 exact ⟨by show hd.2.1.length<=_;omega,by show es.length<=_;omega,fun b hb'=>by have:=hb.2 b hb';omega,parF_fit h4 ((s1.eat e2).eat e3) (by omega)⟩
theorem parRules_fit:∀ (n:Nat) (l t:List Tok) (rs:List Rul),l.length<=n->parRules l=.ok rs t->Short l->l.length<=16385->rs.length<=l.length/\∀ r∈rs,RuFit r
 | 0,l,t,rs,hn,h,hs,hl=>by
  obtain rfl:l=[]:=List.length_eq_zero_iff.1 (by omega)
  rw [parRules_eq,if_pos (show isEnd []=true from rfl)] at h
  cases h;simp
 | n+1,l,t,rs,hn,h,hs,hl=>by
  rw [parRules_eq] at h
  split at h
  ·cases h;simp
  ·obtain ⟨r,l1,h1,h⟩:=Rs.bind_ok.1 h
   obtain ⟨rs',l2,h2,h⟩:=Rs.bind_ok.1 h
   cases h
   have e:=parRule_eat h1
   have:=e.len
   obtain ⟨k1,k2⟩:=parRules_fit n l1 _ rs' (by omega) h2 (hs.eat e.z) (by omega)
   refine ⟨by simp;omega,fun x hx=>?_⟩
   rcases List.mem_cons.1 hx with rfl | hx
   ·exact parRule_fit h1 hs hl
   ·exact k2 x hx
theorem parRules_isEnd:∀ (n:Nat) (l t:List Tok) (rs:List Rul),l.length<=n->parRules l=.ok rs t->isEnd t=true
 | n,l,t,rs,hn,h=>(rules_rest n l rs t hn h).1
theorem synParse_bad {b:Bs} (h:(readF b (parRules (tokensF b).1)).2 ≠ 0):synParse b=([],(readF b (parRules (tokensF b).1)).1,(readF b (parRules (tokensF b).1)).2):=by
 rw [synParse_eq]
 unfold readF at h ⊢
 split
 ·rfl
 ·rename_i hc
  rw [if_neg hc] at h
  cases hO:parRules (tokensF b).1 with
  | bad n=>rfl
  | ok f r =>
   rw [hO] at h
   simp only [readR] at h ⊢
   rw [parRules_isEnd _ _ _ _ (Nat.le_refl _) hO] at h
   exact absurd rfl h
theorem synParse_ok {b:Bs} {f:List Rul} {r:List Tok} (h0:(tokensF b).2.2=0) (hR:parRules (tokensF b).1=.ok f r):synParse b=if synCheck f ≠ 0 then ([],0,synCheck f) else (f,0,0):=by
 rw [synParse_eq,if_neg (by rw [h0];decide),hR]
def ParseP (bs:Bs) (w:World) (e:Ending) (w':World):Prop:=Below w.heap.size w w' /\
 ((∃ (l:List Rul) (z:SlA),synParse bs=(l,0,0)/\e=.returned (.tuple #[.slice z.a l.length z.cap,.int .i64 0,.int .i64 0])/\SlIn w' (Fr w.heap.size w') (l.map Rul.toD) z/\∀ r∈l,RuFit r)
  ∨ (∃ (n:Nat) (c:Int),synParse bs=([],n,c)/\c ≠ 0/\e=.returned (.tuple #[.slice none 0 0,.int .i64 (n:Int),.int .i64 c])))
theorem sparse_any (bs:Bs) (a:Option Addr) (b o cap:Nat) (w:World) (hsb:SB w w.heap.size bs a b o) (hcap:bs.length<=cap) (hg:GS w):Calls Tryz.prog 20 #[.slice a bs.length cap] w (ParseP bs w):=by
 obtain ⟨A,hA⟩:∃ A,A=w.heap.size:=⟨_,rfl⟩
 obtain ⟨W0,hW0⟩:∃ W0,W0=w.alloc (.cells #[.slice none 0 0] 38):=⟨_,rfl⟩
 have hb0:Below w.heap.size w W0:=by rw [hW0];exact below_new _ _
 have hz0:W0.heap.size=A+1:=by rw [hW0,hA];simp
 have kC:W0.heap[A]?=some (.cells #[.slice none 0 0] 38 (0,0)):=by rw [hW0,hA];exact heap_alloc_new _ _
 have hlen:(tokensF bs).1.length<=16385:=by
  by_cases h0:(tokensF bs).2.2=0
  ·exact (toks_ok h0).2.2.1
  ·unfold tokensF at h0 ⊢
   split
   ·simp
   ·rename_i hb
    rw [if_neg hb] at h0
    rw [lexS_acc] at h0 ⊢
    split
    ·rename_i h;rw [if_pos h] at h0;exact absurd rfl h0
    ·simp
 have HRD:=Lh (read_any bs (parRules (tokensF bs).1) a b o cap 47 #[.pointer (some ⟨A,0,none⟩)] (fun k=>k=A) (RulesAt A (W0.heap.size+2) (parRules (tokensF bs).1)) W0 (fun W hW=>(hsb.below hb0 hb0.size).below hW hW.size) hcap (hg.below hb0) (enters_of Tryz.func47 (by kernel_rfl) rfl) (fun k hk=>by omega)
  (fun W W' hW hm=>hW.kept hm (by omega) (fun k hk=>by omega))
  (fun W P hp hgb hP=>by
   have h:=parseS_any A P (W0.heap.size+2) w (tokensF bs).1 W (by omega) (by omega) (by omega) hlen hp ⟨hg,hb0.trans (hgb.2.mono (by omega))⟩ ((hgb.2.block _ (gS kC).1).trans kC)
   refine (show Calls Tryz.prog 47 (#[.pointer (some ⟨P,0,none⟩)]++#[.pointer (some ⟨A,0,none⟩)]) W _ from h).mono (fun e W' h=>?_)
   obtain ⟨h1,h2⟩:=h
   refine ⟨h1,?_⟩
   generalize parRules (tokensF bs).1=R at h2 ⊢
   cases R <;> exact h2))
 have H0:=Lh (aI hb0 (aI hz0 (aI kC (aI hg hA))))
 have HW0:=Lh hW0
 have HA:=Lh hA
 have hmf:∀ (fn:Fn) (first cap:Array Value) (w:World),(Instr.makeFunc fn first cap).run Tryz.prog w=.ok (.func fn first cap) w:=fun _ _ _ _=>rfl
 clear hb0 hz0 kC hW0 hsb hg hA hlen
 go_enter Tryz.func20,Tryz.ntmps20
 go_wp2_with fail
 rw [<- HW0.out,<- HA.out]
 refine HRD.out.mono ?_
 rintro e w1 ⟨hm,rfl,hgd⟩
 have hb1:Below w.heap.size w w1:=H0.out.1.trans ((hm.mono (fun k h=>(show w.heap.size<=k by have:=HA.out;omega))).below H0.out.1.size (fun _ h=>h))
 have H1:=Lh (aI hm (aI hgd hb1))
 clear hm hgd hb1
 obtain ⟨n0,hn0⟩:∃ n0,n0=(readF bs (parRules (tokensF bs).1)).1:=⟨_,rfl⟩
 obtain ⟨c0,hc0⟩:∃ c0,c0=(readF bs (parRules (tokensF bs).1)).2:=⟨_,rfl⟩
 rw [<- hn0,<- hc0]
 have HN:=Lh (aI hn0 hc0)
 clear hn0 hc0
 by_cases hc:c0=0
 rotate_left
 ·have hc2:(c0==0)=false:=by simpa using hc
  have HC0:=Lh hc
  have HS:=Lh (show synParse bs=([],n0,c0) from by rw [synParse_bad (by rw [<- HN.out.2];exact hc),<- HN.out.1,<- HN.out.2])
  go_wp2_with fail
  refine bodyPost_ret (v:=.tuple #[.slice none 0 0,.int .i64 (n0:Int),.int .i64 c0]) (by simp [results,Tryz.results20,go_sem, *]) rfl ?_
  exact ⟨H1.out.2.2,.inr ⟨n0,c0,HS.out,by simpa using HC0.out,rfl⟩⟩
 subst hc
 obtain ⟨h0,-,f,r,hR,he⟩:=readF_ok HN.out.2.symm
 obtain ⟨z,hcx,hx⟩:=H1.out.2.1 HN.out.2.symm f r hR
 obtain ⟨hfl,hff⟩:=parRules_fit _ _ _ _ (Nat.le_refl _) hR (toks_short h0) (toks_ok h0).2.2.1
 have HCK:=Lh (scheck_any f z w1 (hx.mono (fun k hk=>hk.2)) (by have:=(toks_ok h0).2.2.1;omega) hff (H0.out.2.2.2.1.below H1.out.2.2))
 have y0:w1.cell? ⟨A,0,none⟩=some (.slice z.a f.length z.cap):=cH hcx rfl
 have hso:=synParse_ok h0 hR
 have H2:=Lh (aI hcx (aI hx (aI hso hff)))
 clear hcx hx hso hff h0 hR he hfl
 go_wp2_with fail
 refine HCK.out.mono ?_
 rintro e w2 ⟨rfl,hb2⟩
 have kC:=(hb2.block _ (gS H2.out.1).1).trans H2.out.1
 have H3:=Lh (aI kC (aI hb2 (H1.out.2.2.trans (hb2.mono H1.out.2.2.size))))
 clear y0
 have y0:w2.cell? ⟨A,0,none⟩=some (.slice z.a f.length z.cap):=cH kC rfl
 clear kC hb2
 by_cases hk:synCheck f=0
 ·have HS:=Lh (show synParse bs=(f,0,0) from by rw [H2.out.2.2.1,if_neg (by rw [hk];decide)])
  rw [hk]
  go_wp2_with fail
  refine bodyPost_ret (v:=.tuple #[.slice z.a f.length z.cap,.int .i64 0,.int .i64 0]) (by simp [results,Tryz.results20,go_sem, *]) rfl ?_
  refine ⟨H3.out.2.2,.inl ⟨f,z,HS.out,rfl,?_,H2.out.2.2.2⟩⟩
  exact (SlIn.modB H2.out.2.1 (Chalk.Mod.of_below (S:=fun _=>False) H3.out.2.1) (fun _ h=>h.elim)).mono (fun k hk=>⟨by have:=hk.1;have:=H0.out.2.1;have:=HA.out;omega,hk.2⟩)
 ·have hk2:(synCheck f==0)=false:=by simpa using hk
  have HK0:=Lh hk
  have HS:=Lh (show synParse bs=([],0,synCheck f) from by rw [H2.out.2.2.1,if_pos hk])
  go_wp2_with fail
  refine bodyPost_ret (v:=.tuple #[.slice none 0 0,.int .i64 0,.int .i64 (synCheck f)]) (by simp [results,Tryz.results20,go_sem, *]) rfl ?_
  exact ⟨H3.out.2.2,.inr ⟨0,synCheck f,HS.out,by simpa using HK0.out,rfl⟩⟩
end Go.Proofs.YtpmalchlecnjbaaGreatDoor
/- syntax.Text, Print. (written by tools/gen_pcd.py) -/
namespace Go.Proofs.YtpmalchlecnjbaaGreatDoor
open Go.RowKit Go.Chalk
attribute [local go_sem] Oper.semAt_some
theorem stext_any (f:Frm) (y:FrmA) (w:World) (hx:FrmIn w (·<w.heap.size) f y) (hf:FrmFit f) (hg:GS w) :
  Calls Tryz.prog 18 #[.agg (y.cells f).toArray] w (TextPost w.heap.size w (synText f)):=by
 obtain ⟨B,hB⟩:∃ B,B=w.heap.size:=⟨_,rfl⟩
 obtain ⟨W0,hW0⟩:∃ W0,W0=w.alloc (.cells (y.cells f).toArray 28):=⟨_,rfl⟩
 have hb0:Below w.heap.size w W0:=by rw [hW0];exact below_new _ _
 have kB:W0.heap[B]?=some (.cells (y.cells f).toArray 28 (0,0)):=by rw [hW0,hB];exact heap_alloc_new _ _
 have HC:=Lh (fcheck_any f y W0 (hx.later hb0 hb0.size) hf (hg.below hb0).gg)
 have HFO:=Lh (fun (hw:wf f) (P:Nat) (hP:w.heap.size<=P) (W:World) (hb:Below w.heap.size w W) (hwa:WAt W P []) (hl:(txtF f).length<=maxTx)=>form_any w hg P hP f hw y [] W hb hwa ((hx.agree (agree_of_below hb)).mono (fun k hk=>by omega)) (by simpa using hl))
 have H0:=Lh (aI hb0 (aI kB hB))
 have HW0:=Lh hW0
 have HB:=Lh hB
 obtain ⟨R,hR⟩:∃ R,R=synText f:=⟨_,rfl⟩
 rw [<- hR]
 have HWF:=Lh (fun (h:frmCheck f=0)=>frmCheck_wf h)
 have HTL:=Lh (fun (h:frmCheck f=0)=>txtF_len f (frmCheck_wf h).1)
 have HRT:Hid (R=if frmCheck f ≠ 0 then ([],frmCheck f) else toldF (txtF f)):=Lh (by rw [hR];rfl)
 clear hx hf hg hb0 kB hW0 hB hR
 obtain ⟨kind,fname,n,terms,binds,fl⟩:=f
 obtain ⟨yt,yb,yl⟩:=y
 simp only [ndV,FrmA.cells,SlA.val,Frm.kind,Frm.name,Frm.n,Frm.terms,Frm.binds,Frm.l] at HC HFO H0 HW0 HRT HTL ⊢
 have HRE:=Lh (fun (c:Int) (h:c ≠ 0) (h2:frmCheck (.mk kind fname n terms binds fl)=c)=>(show R=([],c) by rw [HRT.out,h2,if_pos h]))
 have HRO:=Lh (fun (h2:frmCheck (.mk kind fname n terms binds fl)=0)=>(show R=toldF (txtF (.mk kind fname n terms binds fl)) by rw [HRT.out,h2,if_neg (by decide)]))
 clear HRT
 obtain ⟨fc,hfc⟩:∃ fc,fc=frmCheck (.mk kind fname n terms binds fl):=⟨_,rfl⟩
 rw [<- hfc] at HC
 have HFC:=Lh hfc
 clear hfc
 go_enter Tryz.func18,Tryz.ntmps18
 go_wp2_with fail
 rw [<- HW0.out]
 refine HC.out.mono ?_
 rintro e w1 ⟨rfl,hb1⟩
 have k1:=(hb1.block _ (gS H0.out.2.1).1).trans H0.out.2.1
 have H1:=Lh (aI k1 (H0.out.1.trans (hb1.mono H0.out.1.size)))
 clear hb1 k1
 by_cases hc:fc=0
 rotate_left
 ·have hc2:(fc==0)=false:=by simpa using hc
  have HE:=Lh (HRE.out fc hc HFC.out.symm)
  go_wp2_with fail
  go_ret2
  exact TextPost.mk' HE.out (BytesV.nil _) H1.out.2
 subst hc
 have HO:=Lh (HRO.out HFC.out.symm)
 obtain ⟨W2,hW2⟩:∃ W2,W2=w1.alloc (.cells #[.pointer none,.slice none 0 0] 79):=⟨_,rfl⟩
 have hb2:Below w1.heap.size w1 W2:=by rw [hW2];exact below_new _ _
 have k2:=(hb2.block _ (gS H1.out.1).1).trans H1.out.1
 obtain ⟨PW,hPW⟩:∃ PW,PW=w1.heap.size:=⟨_,rfl⟩
 have hwa:WAt W2 PW []:=by rw [hW2,hPW];exact wAt_new w1
 have H2:=Lh (aI k2 (aI (H1.out.2.trans (hb2.mono H1.out.2.size)) (aI hwa (show w.heap.size<=PW by have:=H1.out.2.size;omega))))
 have HF:=Lh (HFO.out (HWF.out HFC.out.symm).1 PW H2.out.2.2.2 W2 H2.out.2.1 H2.out.2.2.1 (by have h1:=HTL.out HFC.out.symm;have h2:=(HWF.out HFC.out.symm).2.1;unfold maxTx;omega))
 have HW2:=Lh hW2
 have HPW:=Lh hPW
 have k2':=H1.out.1
 rw [HB.out] at k2'
 have hbl:w.heap.size<w1.heap.size:=(gS k2').1
 have q0:w1.cell? ⟨w.heap.size,0,none⟩=some (.int .i64 kind):=cH k2' rfl
 have q1:w1.cell? ⟨w.heap.size,1,none⟩=some (.string ⟨fname.toArray⟩):=cH k2' rfl
 have q2:w1.cell? ⟨w.heap.size,2,none⟩=some (.int .i64 n):=cH k2' rfl
 have q3:w1.cell? ⟨w.heap.size,3,none⟩=some (.slice yt.a terms.length yt.cap):=cH k2' rfl
 have q4:w1.cell? ⟨w.heap.size,4,none⟩=some (.slice yb.a binds.length yb.cap):=cH k2' rfl
 have q5:w1.cell? ⟨w.heap.size,5,none⟩=some (.slice yl.a fl.length yl.cap):=cH k2' rfl
 clear k2'
 clear hb2 k2 hwa hW2 hPW
 go_wp2_with fail
 rw [<- HW2.out,<- HPW.out]
 refine HF.out.mono ?_
 rintro e w3 ⟨rfl,hwa3,hwr3⟩
 rw [List.nil_append] at hwa3
 have H3:=Lh (aI hwa3 (H2.out.2.1.trans (hwr3.below.mono H2.out.2.2.2)))
 clear hwa3 hwr3
 have HT:=Lh (told_any PW _ w3 H3.out.1 (by have h1:=HTL.out HFC.out.symm;have h2:=(HWF.out HFC.out.symm).2.1;omega))
 clear q0 q1 q2 q3 q4 q5
 go_wp2_with fail
 refine HT.out.mono ?_
 rintro e w4 ⟨v,rfl,hv,hb4⟩
 have H4:=Lh (aI hv (H3.out.2.trans (hb4.mono H2.out.2.2.2)))
 clear hv hb4
 obtain ⟨t2,ht2⟩:∃ t2,t2=(toldF (txtF (.mk kind fname n terms binds fl))).2:=⟨_,rfl⟩
 rw [<- ht2]
 have HT2:=Lh ht2
 clear ht2
 go_wp2_with fail
 go_ret2
 exact ⟨v,by rw [HO.out,<- HT2.out];rfl,by rw [HO.out];exact H4.out.1,H4.out.2⟩
theorem sprint_any (l:List Rul) (x:SlA) (w:World) (hx:SlIn w (·<w.heap.size) (l.map Rul.toD) x) (hl:l.length<=2000000) (hf:∀ r∈l,RuFit r) (hg:GS w) :
  Calls Tryz.prog 24 #[.slice x.a l.length x.cap] w (TextPost w.heap.size w (synPrint l)):=by
 have HC:=Lh (scheck_any l x w hx hl hf hg)
 have HIN:Hid (∀ (j:Nat) (hj:j<l.length),∃ y:RulA,RulIn w (·<w.heap.size) l[j] y/\CellsAt w x.b (x.o+j*10) (y.cells l[j])):=Lh (fun j hj=>hx.rul j hj)
 have HSL:Hid (SlAt (·<w.heap.size) x.a x.b x.o l.length):=Lh (by have:=hx.at_;rwa [List.length_map] at this)
 have HG:=Lh hg
 obtain ⟨R,hR⟩:∃ R,R=synPrint l:=⟨_,rfl⟩
 rw [<- hR]
 have HRE:=Lh (fun (c:Int) (h:c ≠ 0) (h2:synCheck l=c)=>(show R=([],c) by rw [hR,synPrint,h2,if_pos h]))
 have HRO:=Lh (fun (h2:synCheck l=0)=>(show R=(txtRules l,0) by rw [hR,synPrint,h2,if_neg (by decide)]))
 have HZ:=Lh (fun (h2:synCheck l=0)=>synCheck_zero h2)
 obtain ⟨c0,hc0⟩:∃ c0,c0=synCheck l:=⟨_,rfl⟩
 rw [<- hc0] at HC
 have HCC:=Lh hc0
 clear hx hl hf hg hR hc0
 go_enter Tryz.func24,Tryz.ntmps24
 go_wp2_with fail
 refine HC.out.mono ?_
 rintro e w1 ⟨rfl,hb1⟩
 have H1:=Lh hb1
 clear hb1
 by_cases hc:c0=0
 rotate_left
 ·have hc2:(c0==0)=false:=by simpa using hc
  have HE:=Lh (HRE.out c0 hc HCC.out.symm)
  go_wp2_with fail
  go_ret2
  exact TextPost.mk' HE.out (BytesV.nil _) H1.out
 subst hc
 have HO:=Lh (HRO.out HCC.out.symm)
 have HZ2:=Lh (HZ.out HCC.out.symm)
 have hl64:l.length<=64:=HZ2.out.1
 obtain ⟨W2,hW2⟩:∃ W2,W2=w1.alloc (.cells #[.pointer none,.slice none 0 0] 79):=⟨_,rfl⟩
 have hb2:Below w1.heap.size w1 W2:=by rw [hW2];exact below_new _ _
 obtain ⟨PW,hPW⟩:∃ PW,PW=w1.heap.size:=⟨_,rfl⟩
 have hwa:WAt W2 PW []:=by rw [hW2,hPW];exact wAt_new w1
 have H2:=Lh (aI (H1.out.trans (hb2.mono H1.out.size)) (aI hwa (show w.heap.size<=PW by have:=H1.out.size;omega)))
 have HW2:=Lh hW2
 have HPW:=Lh hPW
 clear hb2 hwa hW2 hPW HRE HRO HZ HC
 go_wp2_with fail
 rw [<- HW2.out,<- HPW.out]
 go_loopw [15] (fun i wr=>∃ j:Nat,j<=l.length/\i=.int .i64 j/\Hid (Below w.heap.size w wr)/\Hid (WAt wr PW (txtRules (l.take j)))/\Hid ((txtRules (l.take j)).length<=j*200000)) (fun i _=>l.length - (intOf i).toNat)
 case atStart=>exact ⟨0,Nat.zero_le _,rfl,Lh H2.out.1,Lh H2.out.2.1,Lh (by simp [txtRules])⟩
 case round =>
  obtain ⟨j,hj,rfl,HB,HWA,HLN⟩:=hrel
  by_cases hlt:j<l.length
  ·obtain ⟨y,hy1,hy2⟩:=HIN.out j hlt
   obtain ⟨hxa,hFb⟩:=HSL.out (by omega)
   have hys:=hy2.agree (agree_of_below HB.out) hFb
   have hr1:=(HZ2.out.2.1 l[j] (List.getElem_mem hlt)).1
   have hr2:=(HZ2.out.2.1 l[j] (List.getElem_mem hlt)).2
   obtain ⟨BB,hBB⟩:∃ BB,BB=wr.heap.size:=⟨_,rfl⟩
   obtain ⟨WB,hWB⟩:∃ WB,WB=wr.alloc (.cells (y.cells l[j]).toArray 64):=⟨_,rfl⟩
   have hbb:Below wr.heap.size wr WB:=by rw [hWB];exact below_new _ _
   have hbx:WB.heap[BB]?=some (.cells (y.cells l[j]).toArray 64 (0,0)):=by rw [hWB,hBB];exact heap_alloc_new _ _
   have hbw:Below w.heap.size w WB:=HB.out.trans (hbb.mono HB.out.size)
   have hl2:=rules_len hlt hr1 hr2 HLN.out
   have HCR:=Lh (wrule_any w HG.out PW H2.out.2.2 l[j] y (txtRules (l.take j)) WB (whole_weight hr1) (by have:=(wholeR_iff hr1).2.2.2.1;omega) (frmCheck_wf hr2).1 hbw (HWA.out.below hbb) ((hy1.agree (agree_of_below hbw)).mono (fun k hk=>by have:=H2.out.2.2;omega)) (by have:=hl2.2;have:=HZ2.out.1;unfold maxTx;omega))
   have HLN2:=Lh hl2.1
   have HTT:=Lh (txtRules_take hlt)
   have HWB:=Lh hWB
   have HBB:=Lh hBB
   have HBX:=Lh (aI hbx hbw)
   rw [hxa]
   clear hy1 hy2 hFb hBB hWB hbb hbx hbw hr1 hr2 hl2
   generalize l[j]=re at HCR HTT HWB HBX hys
   obtain ⟨name,hard,weight,each,⟨kind,fname,n,terms,binds,fl⟩⟩:=re
   obtain ⟨ye,yb⟩:=y
   simp only [ndV,RulA.cells,FrmA.cells,SlA.val,Frm.kind,Frm.name,Frm.n,Frm.terms,Frm.binds,Frm.l] at HCR HTT HWB HBX hys
   obtain ⟨e0,e1,e2,e3,e4,e5,e6,e7,e8,e9⟩:=hys.ten
   clear hys
   generalize htx:txtRules (l.take j)=tx at HCR HTT
   clear htx
   go_wp2_with fail
   rw [<- HWB.out,<- HBB.out]
   refine HCR.out.mono ?_
   rintro e w4 ⟨rfl,hwa4,hwr4⟩
   have H4:=Lh (aI hwa4 (HBX.out.2.trans (hwr4.below.mono H2.out.2.2)))
   clear hwa4 hwr4
   go_wp2_with fail
   exact ⟨⟨j+1,by omega,by go_num,Lh H4.out.2,Lh (by rw [HTT.out];exact H4.out.1),HLN2⟩,by simp [intOf];omega⟩
  ·have hjl:j=l.length:=by omega
   have HT:=Lh (told_any PW (txtRules l) wr (by have h:=HWA.out;rwa [hjl,List.take_length] at h) (by have:=HZ2.out.2.2;omega))
   have HTF:Hid (toldF (txtRules l)=(txtRules l,0)):=Lh (by unfold toldF;rw [if_neg (by have:=HZ2.out.2.2;omega)])
   clear hjl
   go_wp2_with fail
   refine HT.out.mono ?_
   rintro e w2 ⟨v,rfl,hv,hb2⟩
   rw [HTF.out] at hv ⊢
   have H3:=Lh (aI hv (HB.out.trans (hb2.mono H2.out.2.2)))
   clear hv hb2
   go_wp2_with fail
   go_ret2
   exact TextPost.mk' HO.out H3.out.1 H3.out.2
end Go.Proofs.YtpmalchlecnjbaaGreatDoor
/- slices.Equal of terms, bindings. (written by tools/gen_psa.py) -/
namespace Go.Proofs.YtpmalchlecnjbaaGreatDoor
open Go.RowKit Go.Chalk
attribute [local go_sem] Oper.semAt_some
end Go.Proofs.YtpmalchlecnjbaaGreatDoor
/- formula.Same. (written by tools/gen_psb.py) -/
namespace Go.Chalk
open Go.RowKit
mutual
/-- Two formulas are equal. -/
def frmEq:Frm->Frm->Bool
 | .mk k s n t b l,.mk k' s' n' t' b' l'=>decide (k=k')&&(decide (s=s')&&(decide (n=n')&&(decide (t=t')&&(decide (b=b')&&frmsEq l l'))))
def frmsEq:List Frm->List Frm->Bool
 | [],[]=>true
 | f :: r,g :: q=>frmEq f g&&frmsEq r q
 | [],_ :: _=>false
 | _ :: _,[]=>false
end
mutual
theorem frmEq_iff:∀ f g:Frm,frmEq f g=true ↔ f=g
 | .mk k s n t b l,.mk k' s' n' t' b' l'=>by
  rw [frmEq]
  simp only [Bool.and_eq_true,decide_eq_true_eq,frmsEq_iff l l',Frm.mk.injEq]
theorem frmsEq_iff:∀ l m:List Frm,frmsEq l m=true ↔ l=m
 | [],[]=>by simp [frmsEq]
 | f :: r,g :: q=>by rw [frmsEq];simp only [Bool.and_eq_true,frmEq_iff f g,frmsEq_iff r q,List.cons.injEq]
 | [],_ :: _=>by simp [frmsEq]
 | _ :: _,[]=>by simp [frmsEq]
end
theorem frmEq_proj {f g:Frm} (h1:f.kind=g.kind) (h2:f.name=g.name) (h3:f.n=g.n):frmEq f g=(decide (f.terms=g.terms)&&(decide (f.binds=g.binds)&&frmsEq f.l g.l)):=by
 obtain ⟨k1,s1,n1,t1,b1,l1⟩:=f
 obtain ⟨k2,s2,n2,t2,b2,l2⟩:=g
 simp only [Frm.kind,Frm.name,Frm.n] at h1 h2 h3
 subst h1
 subst h2
 subst h3
 simp only [frmEq,decide_true,Bool.true_and]
 rfl
theorem frmEq_self (f:Frm):frmEq f f=true:=(frmEq_iff f f).2 rfl
theorem kid_size:∀ {l:List Frm} {g:Frm},g∈l->g.size<=fsizes l
 | f :: r,g,h=>by
  rw [fsizes]
  rcases List.mem_cons.1 h with rfl | h
  ·omega
  ·have:=kid_size h;omega
theorem nodes_mem:∀ {l:List Frm} {g x:Frm},g∈l->x∈nodesF g->x∈nodesL l
 | f :: r,g,x,h,hx=>by
  rw [nodesL]
  rcases List.mem_cons.1 h with rfl | h
  ·exact List.mem_append_left _ hx
  ·exact List.mem_append_right _ (nodes_mem h hx)
end Go.Chalk
namespace Go.Proofs.YtpmalchlecnjbaaGreatDoor
open Go.RowKit Go.Chalk
attribute [local go_sem] Oper.semAt_some
theorem FrmFit.child {kind n:Int} {name:Bs} {terms:List Trm} {binds:List Bnd} {l:List Frm} (h:FrmFit (.mk kind name n terms binds l)) {g:Frm} (hg:g∈l):FrmFit g/\g.size<(Frm.mk kind name n terms binds l).size:=by
 have h1:=kid_size hg
 have h2:(Frm.mk kind name n terms binds l).size=1+fsizes l:=by rw [Frm.size]
 have h3:=h.size
 exact ⟨⟨by omega,fun x hx=>h.nodes x (by rw [nodesF];exact List.mem_cons_of_mem _ (nodes_mem hg hx))⟩,by omega⟩
theorem FrmFit.self {f:Frm} (h:FrmFit f):FrmSm f:=h.nodes f (by cases f;rw [nodesF];exact List.mem_cons_self)
def SameOk (F:FuncId) (f g:Frm) (W:World):Prop:=∀ (x y:FrmA),FrmIn W (·<W.heap.size) f x->FrmIn W (·<W.heap.size) g y->Calls Tryz.prog F #[.agg (x.cells f).toArray,.agg (y.cells g).toArray] W (Answers W (frmEq f g))
end Go.Proofs.YtpmalchlecnjbaaGreatDoor
/- The reference's Same of formulas. (written by tools/gen_psc.py) -/
namespace Go.Proofs.YtpmalchlecnjbaaGreatDoor
open Go.RowKit Go.Chalk
attribute [local go_sem] Oper.semAt_some
theorem r6same_step (f g:Frm) (x y:FrmA) (w:World) (hx:FrmIn w (·<w.heap.size) f x) (hy:FrmIn w (·<w.heap.size) g y) (hf:FrmFit f) (hkid:∀ f'∈f.l,∀ g' W,Below w.heap.size w W->SameOk 16 f' g' W) :
  Calls Tryz.prog 16 #[.agg (x.cells f).toArray,.agg (y.cells g).toArray] w (Answers w (frmEq f g)):=by
 obtain ⟨B,hB⟩:∃ B,B=w.heap.size:=⟨_,rfl⟩
 obtain ⟨W2,hW2⟩:∃ W2,W2=(w.alloc (.cells (x.cells f).toArray 28)).alloc (.cells (y.cells g).toArray 28):=⟨_,rfl⟩
 have hb2:Below w.heap.size w W2:=by rw [hW2];exact (((Below.refl _ _).alloc (Nat.le_refl _) _).alloc (by simp) _)
 have kx:W2.heap[w.heap.size]?=some (.cells (x.cells f).toArray 28 (0,0)):=by rw [hW2,heap_get,if_neg (by simp),heap_get,if_pos (by simp)]
 have ky:W2.heap[w.heap.size+1]?=some (.cells (y.cells g).toArray 28 (0,0)):=by rw [hW2,heap_get,if_pos (by simp)]
 obtain ⟨gt1,_,_,ct1,_⟩:=hx.terms.flat Trm.flatT
 obtain ⟨gt2,_,_,ct2,_⟩:=hy.terms.flat Trm.flatT
 obtain ⟨gb1,_,_,cb1,_⟩:=hx.binds.flat Bnd.flatT
 obtain ⟨gb2,_,_,cb2,_⟩:=hy.binds.flat Bnd.flatT
 have gl1:=hx.l.at_
 have gl2:=hy.l.at_
 rw [List.length_map] at gl1 gl2
 have HT1:=Lh (fun (j:Nat) (hj:j<f.terms.length)=>ct1.three j hj rfl)
 have HT2:=Lh (fun (j:Nat) (hj:j<g.terms.length)=>ct2.three j hj rfl)
 have HB1:=Lh (fun (j:Nat) (hj:j<f.binds.length)=>cb1.two j hj rfl)
 have HB2:=Lh (fun (j:Nat) (hj:j<g.binds.length)=>cb2.two j hj rfl)
 have HL1:=Lh (fun (j:Nat) (hj:j<f.l.length)=>hx.l.frm j hj)
 have HL2:=Lh (fun (j:Nat) (hj:j<g.l.length)=>hy.l.frm j hj)
 have HCL:=Lh hkid
 have HSM:=Lh hf.self
 obtain ⟨R,hR⟩:∃ R,R=frmEq f g:=⟨_,rfl⟩
 rw [<- hR]
 have HRN:Hid ((f.kind ≠ g.kind∨f.name ≠ g.name∨f.n ≠ g.n∨f.terms ≠ g.terms∨f.binds ≠ g.binds∨f.l.length ≠ g.l.length)->R=false):=Lh (fun h=>by
  rw [hR,Bool.eq_false_iff]
  intro h2
  rw [frmEq_iff] at h2
  subst h2
  simp at h)
 have HRR:Hid (f.kind=g.kind->f.name=g.name->f.n=g.n->f.terms=g.terms->f.binds=g.binds->R=frmsEq f.l g.l):=Lh (fun h1 h2 h3 h4 h5=>by
  rw [hR,frmEq_proj h1 h2 h3,decide_eq_true h4,decide_eq_true h5];rfl)
 have HW2:=Lh hW2
 have HKX:=Lh (aI kx (aI ky hb2))
 have hsz2:W2.heap.size=w.heap.size+2:=by rw [hW2];simp
 have HS2:=Lh hsz2
 clear hx hy hf hkid hb2 kx ky hW2 hB hR ct1 ct2 cb1 cb2 hsz2
 obtain ⟨k1,s1,n1,t1,b1,l1⟩:=f
 obtain ⟨k2,s2,n2,t2,b2,l2⟩:=g
 obtain ⟨xt1,xb1,xl1⟩:=x
 obtain ⟨xt2,xb2,xl2⟩:=y
 simp only [ndV,FrmA.cells,SlA.val,FrmSm,Frm.kind,Frm.name,Frm.n,Frm.terms,Frm.binds,Frm.l] at HT1 HT2 HB1 HB2 HL1 HL2 HCL HSM HRN HRR HW2 HKX gt1 gt2 gb1 gb2 gl1 gl2 ⊢
 have HK:Hid (∀ W':World,Below W2.heap.size W2 W'->Below w.heap.size w W'/\W'.heap[w.heap.size]?=some (.cells #[.int .i64 k1,.string ⟨s1.toArray⟩,.int .i64 n1,.slice xt1.a t1.length xt1.cap,.slice xb1.a b1.length xb1.cap,.slice xl1.a l1.length xl1.cap] 28 (0,0))/\W'.heap[w.heap.size+1]?=some (.cells #[.int .i64 k2,.string ⟨s2.toArray⟩,.int .i64 n2,.slice xt2.a t2.length xt2.cap,.slice xb2.a b2.length xb2.cap,.slice xl2.a l2.length xl2.cap] 28 (0,0))):=Lh (fun W' hW=>⟨HKX.out.2.2.trans (hW.mono HKX.out.2.2.size),(hW.block _ (gS HKX.out.1).1).trans HKX.out.1,(hW.block _ (gS HKX.out.2.1).1).trans HKX.out.2.1⟩)
 go_enter Tryz.func16,Tryz.ntmps16
 by_cases h:k1=k2
 rotate_left
 ·have h2:(k1==k2)=false:=by simpa using h
  have HS:Hid (R=false):=Lh (HRN.out (.inl h))
  clear HRR HRN HT1 HT2 HB1 HB2 HL1 HL2 HCL HSM HK gt1 gt2 gb1 gb2 gl1 gl2
  go_wp2_with fail
  go_ret
  exact ⟨ret_bool HS.out.symm,by rw [<- HW2.out];exact HKX.out.2.2⟩
 subst h
 by_cases h:s1=s2
 rotate_left
 ·have h2:(s1==s2)=false:=by simpa using h
  have HS:Hid (R=false):=Lh (HRN.out (.inr (.inl h)))
  clear HRR HRN HT1 HT2 HB1 HB2 HL1 HL2 HCL HSM HK gt1 gt2 gb1 gb2 gl1 gl2
  go_wp2_with fail
  go_ret
  exact ⟨ret_bool HS.out.symm,by rw [<- HW2.out];exact HKX.out.2.2⟩
 subst h
 by_cases h:n1=n2
 rotate_left
 ·have h2:(n1==n2)=false:=by simpa using h
  have HS:Hid (R=false):=Lh (HRN.out (.inr (.inr (.inl h))))
  clear HRR HRN HT1 HT2 HB1 HB2 HL1 HL2 HCL HSM HK gt1 gt2 gb1 gb2 gl1 gl2
  go_wp2_with fail
  go_ret
  exact ⟨ret_bool HS.out.symm,by rw [<- HW2.out];exact HKX.out.2.2⟩
 subst h
 by_cases h:t1.length=t2.length
 rotate_left
 ·have HS:Hid (R=false):=Lh (HRN.out (.inr (.inr (.inr (.inl (fun h'=>h (by rw [h'])))))))
  have HEND:Hid (Below w.heap.size w ((w.alloc (.cells #[.int .i64 k1,.string ⟨s1.toArray⟩,.int .i64 n1,.slice xt1.a t1.length xt1.cap,.slice xb1.a b1.length xb1.cap,.slice xl1.a l1.length xl1.cap] 28)).alloc (.cells #[.int .i64 k1,.string ⟨s1.toArray⟩,.int .i64 n1,.slice xt2.a t2.length xt2.cap,.slice xb2.a b2.length xb2.cap,.slice xl2.a l2.length xl2.cap] 28))):=Lh (by rw [<- HW2.out];exact HKX.out.2.2)
  clear HRR HRN HT1 HT2 HB1 HB2 HL1 HL2 HCL HSM HK gt1 gt2 gb1 gb2 gl1 gl2 HW2 HKX HS2
  generalize t1.length=m1 at *
  generalize t2.length=m2 at *
  have h2:((m1:Int)==(m2:Int))=false:=by simp;omega
  go_wp2_with fail
  go_ret
  exact ⟨ret_bool HS.out.symm,HEND.out⟩
 have Et:=Lh h
 clear h
 by_cases h:b1.length=b2.length
 rotate_left
 ·have HS:Hid (R=false):=Lh (HRN.out (.inr (.inr (.inr (.inr (.inl (fun h'=>h (by rw [h']))))))))
  have HEND:Hid (Below w.heap.size w ((w.alloc (.cells #[.int .i64 k1,.string ⟨s1.toArray⟩,.int .i64 n1,.slice xt1.a t1.length xt1.cap,.slice xb1.a b1.length xb1.cap,.slice xl1.a l1.length xl1.cap] 28)).alloc (.cells #[.int .i64 k1,.string ⟨s1.toArray⟩,.int .i64 n1,.slice xt2.a t2.length xt2.cap,.slice xb2.a b2.length xb2.cap,.slice xl2.a l2.length xl2.cap] 28))):=Lh (by rw [<- HW2.out];exact HKX.out.2.2)
  clear HRR HRN HT1 HT2 HB1 HB2 HL1 HL2 HCL HSM HK gt1 gt2 gb1 gb2 gl1 gl2 HW2 HKX HS2
  generalize b1.length=m1 at *
  generalize b2.length=m2 at *
  have h2:((m1:Int)==(m2:Int))=false:=by simp;omega
  rw [Et.out]
  have h3:((t2.length:Int)==(t2.length:Int))=true:=by simp
  rw [Et.out] at HEND
  go_wp2_with fail
  go_ret
  exact ⟨ret_bool HS.out.symm,HEND.out⟩
 have Eb:=Lh h
 clear h
 by_cases h:l1.length=l2.length
 rotate_left
 ·have HS:Hid (R=false):=Lh (HRN.out (.inr (.inr (.inr (.inr (.inr h))))))
  have HEND:Hid (Below w.heap.size w ((w.alloc (.cells #[.int .i64 k1,.string ⟨s1.toArray⟩,.int .i64 n1,.slice xt1.a t1.length xt1.cap,.slice xb1.a b1.length xb1.cap,.slice xl1.a l1.length xl1.cap] 28)).alloc (.cells #[.int .i64 k1,.string ⟨s1.toArray⟩,.int .i64 n1,.slice xt2.a t2.length xt2.cap,.slice xb2.a b2.length xb2.cap,.slice xl2.a l2.length xl2.cap] 28))):=Lh (by rw [<- HW2.out];exact HKX.out.2.2)
  clear HRR HRN HT1 HT2 HB1 HB2 HL1 HL2 HCL HSM HK gt1 gt2 gb1 gb2 gl1 gl2 HW2 HKX HS2
  generalize l1.length=m1 at *
  generalize l2.length=m2 at *
  have h2:((m1:Int)==(m2:Int))=false:=by simp;omega
  rw [Et.out,Eb.out]
  rw [Et.out,Eb.out] at HEND
  go_wp2_with fail
  go_ret
  exact ⟨ret_bool HS.out.symm,HEND.out⟩
 have El:=Lh h
 clear h
 obtain ⟨nt,hnt⟩:∃ nt,nt=t1.length:=⟨_,rfl⟩
 obtain ⟨nb,hnb⟩:∃ nb,nb=b1.length:=⟨_,rfl⟩
 obtain ⟨nl,hnl⟩:∃ nl,nl=l1.length:=⟨_,rfl⟩
 have HN:=Lh (aI hnt (aI (Et.out.symm.trans hnt.symm) (aI hnb (aI (Eb.out.symm.trans hnb.symm) (aI hnl (El.out.symm.trans hnl.symm))))))
 rw [<- Et.out,<- Eb.out,<- El.out,<- hnt,<- hnb,<- hnl] at HW2 HK
 rw [<- Et.out,<- Eb.out,<- El.out,<- hnt,<- hnb,<- hnl]
 rw [<- hnt] at gt1
 rw [<- Et.out,<- hnt] at gt2
 rw [<- hnb] at gb1
 rw [<- Eb.out,<- hnb] at gb2
 rw [<- hnl] at gl1
 rw [<- El.out,<- hnl] at gl2
 have hbt:nt<=2000000:=by rw [hnt];exact HSM.out.1
 have hbb:nb<=2000000:=by rw [hnb];exact HSM.out.2.1
 have hbl:nl<=2000000:=by rw [hnl];exact HSM.out.2.2.1
 have HXS:=Lh HS2.out
 clear hnt hnb hnl Et Eb El HKX HSM HS2
 go_wp2_with fail
 rw [<- HW2.out]
 go_loopw [5] (fun i wr=>∃ j:Nat,j<=nt/\i=.int .i64 j/\Hid (Below W2.heap.size W2 wr)/\Hid (t1.take j=t2.take j)) (fun i _=>nt - (intOf i).toNat)
 case atStart=>exact ⟨0,Nat.zero_le _,rfl,Lh (Below.refl _ _),Lh rfl⟩
 case round =>
  obtain ⟨j,hj,rfl,HBW,HTK⟩:=hrel
  obtain ⟨wo,hwo⟩:∃ wo,wo=wr:=⟨_,rfl⟩
  obtain ⟨hw,ux,uy⟩:=HK.out wr HBW.out
  have HWW:=Lh hw
  have p3:wr.cell? ⟨w.heap.size,3,none⟩=some (.slice xt1.a nt xt1.cap):=cH ux rfl
  have q3:wr.cell? ⟨w.heap.size+1,3,none⟩=some (.slice xt2.a nt xt2.cap):=cH uy rfl
  clear ux uy hwo
  by_cases hlt:j<nt
  ·obtain ⟨hxa,xl⟩:=gt1 (by omega)
   obtain ⟨hya,yl⟩:=gt2 (by omega)
   rw [hxa] at p3
   rw [hya] at q3
   have hj1:j<t1.length:=by have:=HN.out.1;omega
   have hj2:j<t2.length:=by have:=HN.out.2.1;omega
   have xq:=HT1.out j hj1
   have yq:=HT2.out j hj2
   have xc0:=(hw.cell (p:=⟨xt1.b,xt1.o+j*3,none⟩) xl).trans xq.1
   have xc1:=(hw.cell (p:=⟨xt1.b,xt1.o+j*3+1,none⟩) xl).trans xq.2.1
   have xc2:=(hw.cell (p:=⟨xt1.b,xt1.o+j*3+2,none⟩) xl).trans xq.2.2
   have yc0:=(hw.cell (p:=⟨xt2.b,xt2.o+j*3,none⟩) yl).trans yq.1
   have yc1:=(hw.cell (p:=⟨xt2.b,xt2.o+j*3+1,none⟩) yl).trans yq.2.1
   have yc2:=(hw.cell (p:=⟨xt2.b,xt2.o+j*3+2,none⟩) yl).trans yq.2.2
   have HST:=Lh (fun (h:t1[j]=t2[j])=>(show t1.take (j+1)=t2.take (j+1) by rw [List.take_succ_eq_append_getElem hj1,List.take_succ_eq_append_getElem hj2,HTK.out,h]))
   have HNE:=Lh (fun (h:t1[j] ≠ t2[j])=>HRN.out (.inr (.inr (.inr (.inl (fun h'=>h (by subst h';rfl)))))))
   clear xq yq hxa hya hw
   generalize t1[j]=a at *
   generalize t2[j]=b at *
   clear hj1 hj2
   obtain ⟨ak1,as1,an1⟩:=a
   obtain ⟨ak2,as2,an2⟩:=b
   simp only at xc0 yc0 xc1 yc1 xc2 yc2
   by_cases hab:(⟨ak1,as1,an1⟩:Trm)=⟨ak2,as2,an2⟩
   ·have HS:=Lh (HST.out hab)
    clear HST HNE
    cases hab
    go_wp2_with fail
    go_region
    go_wp2_with fail
    exact ⟨⟨j+1,by omega,by go_num,Lh HBW.out.drew,HS⟩,by simp [intOf];omega⟩
   ·have HS:=Lh (HNE.out hab)
    clear HST HNE
    by_cases hk:ak1=ak2
    rotate_left
    ·clear hab
     have hk2:(ak1==ak2)=false:=by simpa using hk
     go_wp2_with fail
     go_region
     go_wp2_with fail
     go_ret
     exact ⟨ret_bool HS.out.symm,HWW.out.drew⟩
    subst hk
    by_cases hs:as1=as2
    rotate_left
    ·clear hab
     have hs2:(as1==as2)=false:=by simpa using hs
     go_wp2_with fail
     go_region
     go_wp2_with fail
     go_ret
     exact ⟨ret_bool HS.out.symm,HWW.out.drew⟩
    subst hs
    have hn:¬ an1=an2:=fun h=>hab (by subst h;rfl)
    clear hab
    have hn2:(an1==an2)=false:=by simpa using hn
    go_wp2_with fail
    go_region
    go_wp2_with fail
    go_ret
    exact ⟨ret_bool HS.out.symm,HWW.out.drew⟩
  ·have HEt:Hid (t1=t2):=Lh (by
    have h:=HTK.out
    rwa [show j=t1.length by have:=HN.out.1;omega,List.take_length,show t1.length=t2.length by have:=HN.out.1;have:=HN.out.2.1;omega,List.take_length] at h)
   have HBO:=Lh HBW.out
   clear hw HTK HBW
   go_wp2_with fail
   clear p3 q3 hlt hj
   go_loopw [6] (fun i wr=>∃ j:Nat,j<=nb/\i=.int .i64 j/\Hid (Below W2.heap.size W2 wr)/\Hid (b1.take j=b2.take j)) (fun i _=>nb - (intOf i).toNat)
   case atStart=>exact ⟨0,Nat.zero_le _,rfl,Lh (HBO.out),Lh rfl⟩
   case round =>
    obtain ⟨j,hj,rfl,HBW,HTK⟩:=hrel
    obtain ⟨wo,hwo⟩:∃ wo,wo=wr:=⟨_,rfl⟩
    obtain ⟨hw,ux,uy⟩:=HK.out wr HBW.out
    have HWW:=Lh hw
    have p4:wr.cell? ⟨w.heap.size,4,none⟩=some (.slice xb1.a nb xb1.cap):=cH ux rfl
    have q4:wr.cell? ⟨w.heap.size+1,4,none⟩=some (.slice xb2.a nb xb2.cap):=cH uy rfl
    clear ux uy hwo
    by_cases hlt:j<nb
    ·obtain ⟨hxa,xl⟩:=gb1 (by omega)
     obtain ⟨hya,yl⟩:=gb2 (by omega)
     rw [hxa] at p4
     rw [hya] at q4
     have hj1:j<b1.length:=by have:=HN.out.2.2.1;omega
     have hj2:j<b2.length:=by have:=HN.out.2.2.2.1;omega
     have xq:=HB1.out j hj1
     have yq:=HB2.out j hj2
     have xc0:=(hw.cell (p:=⟨xb1.b,xb1.o+j*2,none⟩) xl).trans xq.1
     have xc1:=(hw.cell (p:=⟨xb1.b,xb1.o+j*2+1,none⟩) xl).trans xq.2
     have yc0:=(hw.cell (p:=⟨xb2.b,xb2.o+j*2,none⟩) yl).trans yq.1
     have yc1:=(hw.cell (p:=⟨xb2.b,xb2.o+j*2+1,none⟩) yl).trans yq.2
     have HST:=Lh (fun (h:b1[j]=b2[j])=>(show b1.take (j+1)=b2.take (j+1) by rw [List.take_succ_eq_append_getElem hj1,List.take_succ_eq_append_getElem hj2,HTK.out,h]))
     have HNE:=Lh (fun (h:b1[j] ≠ b2[j])=>HRN.out (.inr (.inr (.inr (.inr (.inl (fun h'=>h (by subst h';rfl))))))))
     clear xq yq hxa hya hw
     generalize b1[j]=a at *
     generalize b2[j]=b at *
     clear hj1 hj2
     obtain ⟨as1,ak1⟩:=a
     obtain ⟨as2,ak2⟩:=b
     simp only at xc0 yc0 xc1 yc1
     by_cases hab:(⟨as1,ak1⟩:Bnd)=⟨as2,ak2⟩
     ·have HS:=Lh (HST.out hab)
      clear HST HNE
      cases hab
      go_wp2_with fail
      go_region
      go_wp2_with fail
      exact ⟨⟨j+1,by omega,by go_num,Lh HBW.out.drew,HS⟩,by simp [intOf];omega⟩
     ·have HS:=Lh (HNE.out hab)
      clear HST HNE
      by_cases hs:as1=as2
      rotate_left
      ·clear hab
       have hs2:(as1==as2)=false:=by simpa using hs
       go_wp2_with fail
       go_region
       go_wp2_with fail
       go_ret
       exact ⟨ret_bool HS.out.symm,HWW.out.drew⟩
      subst hs
      have hk:¬ ak1=ak2:=fun h=>hab (by subst h;rfl)
      clear hab
      have hk2:(ak1==ak2)=false:=by simpa using hk
      go_wp2_with fail
      go_region
      go_wp2_with fail
      go_ret
      exact ⟨ret_bool HS.out.symm,HWW.out.drew⟩
    ·have HEb:Hid (b1=b2):=Lh (by
      have h:=HTK.out
      rwa [show j=b1.length by have:=HN.out.2.2.1;omega,List.take_length,show b1.length=b2.length by have:=HN.out.2.2.1;have:=HN.out.2.2.2.1;omega,List.take_length] at h)
     have HBO:=Lh HBW.out
     clear hw HTK HBW
     have HRE:=Lh (HRR.out (by first | rfl | trivial) (by first | rfl | trivial) (by first | rfl | trivial) HEt.out HEb.out)
     clear HRR
     go_wp2_with fail
     clear p4 q4 hlt hj
     go_loopw [7] (fun i wr=>∃ j:Nat,j<=nl/\i=.int .i64 j/\Hid (Below W2.heap.size W2 wr)/\Hid (R=frmsEq (l1.drop j) (l2.drop j))) (fun i _=>nl - (intOf i).toNat)
     case atStart=>exact ⟨0,Nat.zero_le _,rfl,Lh (HBO.out),Lh HRE.out⟩
     case round =>
      obtain ⟨j,hj,rfl,HBW,HTK⟩:=hrel
      obtain ⟨wo,hwo⟩:∃ wo,wo=wr:=⟨_,rfl⟩
      obtain ⟨hw,ux,uy⟩:=HK.out wr HBW.out
      have HWW:=Lh hw
      have p5:wr.cell? ⟨w.heap.size,5,none⟩=some (.slice xl1.a nl xl1.cap):=cH ux rfl
      have q5:wr.cell? ⟨w.heap.size+1,5,none⟩=some (.slice xl2.a nl xl2.cap):=cH uy rfl
      clear ux uy hwo
      by_cases hlt:j<nl
      ·obtain ⟨hxa,xl⟩:=gl1 (by omega)
       obtain ⟨hya,yl⟩:=gl2 (by omega)
       rw [hxa] at p5
       rw [hya] at q5
       have hj1:j<l1.length:=by have:=HN.out.2.2.2.2.1;omega
       have hj2:j<l2.length:=by have:=HN.out.2.2.2.2.2;omega
       obtain ⟨xf,hf1,hf2⟩:=HL1.out j hj1
       obtain ⟨yf,hg1,hg2⟩:=HL2.out j hj2
       have hxs:=hf2.agree (agree_of_below hw) xl
       have hys:=hg2.agree (agree_of_below hw) yl
       have hwd:Below w.heap.size w wr.drew:=hw.drew
       have HCC:=Lh (HCL.out l1[j] (List.getElem_mem hj1) l2[j] wr.drew hwd xf yf (hf1.later hwd hwd.size) (hg1.later hwd hwd.size))
       have HST:=Lh (show R=(frmEq l1[j] l2[j]&&frmsEq (l1.drop (j+1)) (l2.drop (j+1))) by rw [HTK.out,List.drop_eq_getElem_cons hj1,List.drop_eq_getElem_cons hj2,frmsEq])
       clear hf1 hf2 hg1 hg2 hwd HTK hxa hya hw
       generalize l1[j]=f1 at *
       generalize l2[j]=f2 at *
       clear hj1 hj2
       generalize frmEq f1 f2=q at HCC HST
       obtain ⟨ka1,sa1,na1,ta1,ba1,la1⟩:=f1
       obtain ⟨ka2,sa2,na2,ta2,ba2,la2⟩:=f2
       obtain ⟨xta1,xba1,xla1⟩:=xf
       obtain ⟨xta2,xba2,xla2⟩:=yf
       simp only [ndV,FrmA.cells,SlA.val,Frm.kind,Frm.name,Frm.n,Frm.terms,Frm.binds,Frm.l] at HCC hxs hys
       obtain ⟨xc0,xc1,xc2,xc3,xc4,xc5⟩:=hxs.six
       obtain ⟨yc0,yc1,yc2,yc3,yc4,yc5⟩:=hys.six
       clear hxs hys
       go_wp2_with fail
       cases q
       ·have HS:Hid (R=false):=Lh (by rw [HST.out];rfl)
        clear HST
        go_region_with (first | (go_at_call 16;refine HCC.out.mono ?_;rintro e w3 ⟨rfl,hb3⟩;have HB3:=Lh hb3;clear hb3))
        all_goals (
         go_wp2_with fail
         go_ret
         exact ⟨ret_bool HS.out.symm,HWW.out.drew.trans (HB3.out.mono HWW.out.size)⟩)
       ·have HS:Hid (R=frmsEq (l1.drop (j+1)) (l2.drop (j+1))):=Lh (by rw [HST.out];rfl)
        clear HST
        go_region_with (first | (go_at_call 16;refine HCC.out.mono ?_;rintro e w3 ⟨rfl,hb3⟩;have HB3:=Lh hb3;clear hb3))
        all_goals (
         go_wp2_with fail
         exact ⟨⟨j+1,by omega,by go_num,Lh (HBW.out.drew.trans (HB3.out.mono HBW.out.size)),HS⟩,by simp [intOf];omega⟩)
      ·have HS:Hid (R=true):=Lh (by
        rw [HTK.out,List.drop_eq_nil_of_le (by have:=HN.out.2.2.2.2.1;omega),List.drop_eq_nil_of_le (by have:=HN.out.2.2.2.2.2;omega),frmsEq])
       clear hw
       go_wp2_with fail
       go_ret
       exact ⟨ret_bool HS.out.symm,HWW.out⟩
theorem r6same_any:∀ (m:Nat) (f g:Frm) (w:World),f.size<=m->FrmFit f->SameOk 16 f g w
 | 0,f,g,w,hm,hf=>by cases f;rw [Frm.size] at hm;omega
 | m+1,f,g,w,hm,hf=>fun x y hx hy=>r6same_step f g x y w hx hy hf (fun f' h1 g' W _=>by
  obtain ⟨k,s,n,t,b,l⟩:=f
  obtain ⟨h2,h3⟩:=hf.child (g:=f') h1
  exact r6same_any m f' g' W (by omega) h2)
end Go.Proofs.YtpmalchlecnjbaaGreatDoor
/- The law's live: the chapter's examples. (written by tools/gen_pla.py) -/
namespace Go.Chalk
open Go.RowKit
def liveF:Frm:=.mk 13 [] 0 [] [] [.mk 10 [] 0 [] [] [.mk 12 [] 0 [] [] [.mk 9 [61] 0 [⟨2,[97],0⟩,⟨2,[98],0⟩] [] [],.mk 1 [] 0 [] [] []]],.mk 9 [60] 0 [⟨2,[120],0⟩,⟨1,[],3⟩] [] []]
def liveR:Rul:=⟨[111,110,101],true,0,[⟨[108],1⟩],.mk 15 [] 0 [] [⟨[115],2⟩] [.mk 3 [] 0 [⟨2,[108],0⟩,⟨2,[115],0⟩] [] []]⟩
theorem live_txt:txtF liveF=[33,40,97,32,61,32,98,32,124,32,116,114,117,101,41,32,45,62,32,120,32,60,32,51]:=by decide +kernel
theorem live_chk:frmCheck liveF=0:=by decide +kernel
theorem live_form:synForm [33,40,97,32,61,32,98,32,124,32,116,114,117,101,41,32,45,62,32,120,32,60,32,51]=(some liveF,0,0):=by
 have h:=form_text live_chk (by rw [live_txt];decide)
 rwa [live_txt] at h
theorem live_text:synText liveF=([33,40,97,32,61,32,98,32,124,32,116,114,117,101,41,32,45,62,32,120,32,60,32,51],0):=by
 unfold synText
 rw [live_chk,if_neg (by decide),live_txt,if_neg (by decide)]
theorem live_bad:synForm [97,32,61,32,98,32,38]=(none,7,70):=by
 have h1:(synForm [97,32,61,32,98,32,38]).1.isNone=true:=by decide +kernel
 have h2:(synForm [97,32,61,32,98,32,38]).2=(7,70):=by decide +kernel
 rcases hh:synForm [97,32,61,32,98,32,38] with ⟨a,b⟩
 rw [hh] at h1 h2
 simp only at h1 h2
 subst h2
 cases a with
 | none=>rfl
 | some x=>cases h1
theorem live_rtxt:txtRules [liveR]=[104,97,114,100,32,111,110,101,32,101,97,99,104,32,108,58,32,108,101,115,115,111,110,58,32,115,111,109,101,32,115,58,32,115,108,111,116,32,40,97,116,40,108,44,32,115,41,41,59,10]:=by decide +kernel
theorem live_rchk:synCheck [liveR]=0:=by decide +kernel
theorem live_parse:synParse [104,97,114,100,32,111,110,101,32,101,97,99,104,32,108,58,32,108,101,115,115,111,110,58,32,115,111,109,101,32,115,58,32,115,108,111,116,32,40,97,116,40,108,44,32,115,41,41,59,10]=([liveR],0,0):=by
 have h:=parse_print live_rchk
 rwa [live_rtxt] at h
theorem live_print:synPrint [liveR]=([104,97,114,100,32,111,110,101,32,101,97,99,104,32,108,58,32,108,101,115,115,111,110,58,32,115,111,109,101,32,115,58,32,115,108,111,116,32,40,97,116,40,108,44,32,115,41,41,59,10],0):=by
 unfold synPrint
 rw [live_rchk,if_neg (by decide),live_rtxt]
theorem liveF_fit:∀ g∈nodesF liveF,g.terms.length<=2/\g.binds.length<=2/\g.l.length<=2/\g.name.length<=2/\(∀ t∈g.terms,t.name.length<=2)/\(∀ b∈g.binds,b.name.length<=2):=by
 intro g hg
 simp only [liveF,nodesF,nodesL,List.append_nil,List.cons_append,List.nil_append,List.mem_cons,List.not_mem_nil,or_false] at hg
 rcases hg with rfl | rfl | rfl | rfl | rfl | rfl <;> simp [Frm.terms,Frm.binds,Frm.l,Frm.name]
end Go.Chalk
namespace Go.Proofs.YtpmalchlecnjbaaGreatDoor
open Go.RowKit Go.Chalk
attribute [local go_sem] Oper.semAt_some
theorem live_fit:FrmFit liveF:=⟨by decide,fun g hg=>by
 obtain ⟨h1,h2,h3,h4,h5,h6⟩:=liveF_fit g hg
 exact ⟨by omega,by omega,by omega,by omega,fun t ht=>by have:=h5 t ht;omega,fun b hb=>by have:=h6 b hb;omega⟩⟩
theorem conv_bytes (l:Bs) (n:Nat) (hn:l.length=n) (W:World):∃ cap W',(convert 9 22 (.string ⟨l.toArray⟩)).run Tryz.prog W=.ok (.slice (some ⟨W.heap.size,0,none⟩) n cap) W'/\SB W' W'.heap.size l (some ⟨W.heap.size,0,none⟩) W.heap.size 0/\n<=cap/\Below W.heap.size W W':=by
 subst hn
 have hcv:=Lib.run_convert_string_bytes (P:=Tryz.prog) W 9 22 5 ⟨l.toArray⟩ Tryz.underlying9 Tryz.underlying22 Tryz.underlying5
 rw [size_mk] at hcv
 exact ⟨_,_,hcv,SB.of_text W 5 l,grownCap_ge _ _ _ _,Lib.bytesWorld_below W 5 ⟨l.toArray⟩⟩
theorem lv_any (s:Bs) (w:World):Calls Tryz.prog 37 #[.string ⟨s.toArray⟩] w fun e w'=>e=.returned (.agg #[.int .i64 2,.string ⟨s.toArray⟩,.int .i64 0])/\Below w.heap.size w w':=by
 go_enter Tryz.func37,Tryz.ntmps37
 go_wp2_with fail
 refine bodyPost_ret (v:=.agg #[.int .i64 2,.string ⟨s.toArray⟩,.int .i64 0]) (by simp [results,Tryz.results37,go_sem, *]) rfl ?_
 exact ⟨rfl,below_new _ _⟩
end Go.Proofs.YtpmalchlecnjbaaGreatDoor
