/- Joined texts: UPut, USen, UHead, UBy, UFind, UWhy2. -/
import Derived.Test.YtncnnbmeacpboaaGreatDoorLGl11
import Derived.Test.YtncnnbmeacpboaaGreatDoorN13
import Derived.Test.YtncnnbmeacpboaaGreatDoorN32
import Derived.Test.YtncnnbmeacpboaaGreatDoorN33
import Derived.Deep.QuietTactic
import Derived.Laws.IdiomCopy
import Derived.Test.YtncnnbmeacpboaaGreatDoorLGl9
import Derived.Test.YtncnnbmeacpboaaGreatDoorLGl10
import Derived.Test.YtncnnbmeacpboaaGreatDoorN34
import Derived.Laws.Concat
import Derived.Test.YtncnnbmeacpboaaGreatDoorN10
set_option maxHeartbeats 8000000
set_option maxRecDepth 100000
set_option linter.unusedVariables false
set_option linter.unusedSimpArgs false
/- tell.sentence's closure put: a formula with its variables renamed. -/
namespace Go.Chalk
open Go.RowKit
def put6o (W:World) (g o:Nat) (v0 v1 v2 v3 v4 v5:Value):World:=(((((W.setCell ⟨g,o,none⟩ v0).setCell ⟨g,o+1,none⟩ v1).setCell ⟨g,o+2,none⟩ v2).setCell ⟨g,o+3,none⟩ v3).setCell ⟨g,o+4,none⟩ v4).setCell ⟨g,o+5,none⟩ v5
theorem put6o_row {w:World} {g o:Nat} {e:TypeId} {cur:Array Value} {c0 c1 c2 c3 c4 c5:Value} (hobj:w.heap[g]?=some (.cells cur e (0,0))) (hc:CellsAt w g o [c0,c1,c2,c3,c4,c5]) (v0 v1 v2 v3 v4 v5:Value) :
  Mod (fun k=>k=g) w (put6o w g o v0 v1 v2 v3 v4 v5)/\(∃ cur,(put6o w g o v0 v1 v2 v3 v4 v5).heap[g]?=some (.cells cur e (0,0)))/\(∀ q,(q<o∨o+6<=q)->(put6o w g o v0 v1 v2 v3 v4 v5).cell? ⟨g,q,none⟩=w.cell? ⟨g,q,none⟩)/\CellsAt (put6o w g o v0 v1 v2 v3 v4 v5) g o [v0,v1,v2,v3,v4,v5]:=by
 have e:put6o w g o v0 v1 v2 v3 v4 v5=w.setCells g o [v0,v1,v2,v3,v4,v5]:=rfl
 refine ⟨?_,?_,fun q hq=>?_,fun i hi=>?_⟩
 ·unfold put6o
  exact ((((((Mod.refl (fun k=>k=g) _).setCell (p:=⟨g,o,none⟩) (fun _=>rfl) _).setCell (p:=⟨g,o+1,none⟩) (fun _=>rfl) _).setCell (p:=⟨g,o+2,none⟩) (fun _=>rfl) _).setCell (p:=⟨g,o+3,none⟩) (fun _=>rfl) _).setCell (p:=⟨g,o+4,none⟩) (fun _=>rfl) _).setCell (p:=⟨g,o+5,none⟩) (fun _=>rfl) _
 ·unfold put6o
  exact ⟨_,box_store _ (box_store _ (box_store _ (box_store _ (box_store _ (box_store _ hobj)))))⟩
 ·rw [e,World.cell?_setCells_out g _ o w ⟨g,q,none⟩ (fun _ _=>by simpa using hq)]
 ·rw [e]
  exact World.cell?_setCells_in g _ o w (fun j hj=>by rw [hc j hj];rfl) i hi
theorem RowO.slN {w:World} {F G:Nat->Prop} {sz n:Nat} {e:TypeId} {xs:List D} {a:Option Addr} {g cap:Nat} (hn:xs.length=n) (h:0<n->a=some ⟨g,0,none⟩/\RowO w F sz e xs g) (hFG:∀ k,F k->G k) (hg:0<n->G g) (h1:n<=cap) (h2:cap<=maxLen):SlIn w G xs ⟨a,g,0,cap⟩:=by
 subst hn
 refine ⟨fun hp=>⟨(h hp).1,hg hp⟩,h1,h2,?_⟩
 rcases xs with _ | ⟨x,r⟩
 ·rw [RowAt];trivial
 ·exact RowAt.mono hFG _ _ _ (h (by simp)).2.row
def Nwf (F0:Nat->Prop) (w w':World) (k:Nat):Prop:=F0 k∨(w.heap.size<=k/\k<w'.heap.size)
end Go.Chalk
namespace Go.Proofs.YtncnnbmeacpboaaGreatDoor
open Go.RowKit Go.Chalk
attribute [local go_sem] Oper.semAt_some
structure PutE (w:World) (M Q:Nat) (m:List (Bs×Bs)):Prop where
 mp:∃ mb,w.cell? ⟨M,0,none⟩=some (.map (some mb))/\TxtAt w mb m
 fn:w.cell? ⟨Q,0,none⟩=some (.func (.func 44) #[] #[.pointer (some ⟨M,0,none⟩),.pointer (some ⟨Q,0,none⟩)])
theorem PutE.below {w w':World} {M Q:Nat} {m:List (Bs×Bs)} (h:PutE w M Q m) (hb:Below w.heap.size w w'):PutE w' M Q m:=by
 obtain ⟨⟨mb,h1,h2⟩,h3⟩:=h
 exact ⟨⟨mb,(hb.cell (World.block_lt_of_cell? w _ h1)).trans h1,h2.below hb (gS h2).1⟩,(hb.cell (World.block_lt_of_cell? w _ h3)).trans h3⟩
def PutP (m:List (Bs×Bs)) (f:Frm) (w:World) (F0:Nat->Prop) (e:Ending) (w':World):Prop:=∃ y':FrmA,e=.returned (.agg (y'.cells (renF m f)).toArray)/\FrmIn w' (Nwf F0 w w') (renF m f) y'/\Below w.heap.size w w'
theorem put7_any (m m':List (Bs×Bs)) (M Q:Nat) (hm:∀ k,txtGet m' k=lastP m k) (hml:∀ p∈m',p.2.length<=4000000):∀ (sz:Nat) (f:Frm),f.size<=sz->FrmFit f->∀ (y:FrmA) (w:World) (F0:Nat->Prop),FrmIn w F0 f y->(∀ k,F0 k->k<w.heap.size)->PutE w M Q m' ->
  Calls Tryz.prog 44 #[.agg (y.cells f).toArray,.pointer (some ⟨M,0,none⟩),.pointer (some ⟨Q,0,none⟩)] w (PutP m f w F0):=by
 intro sz
 induction sz with
 | zero=>intro f hf;have:=f.size_pos;omega
 | succ sz ih =>
 intro f hsz hfit y w F0 hx hF0 hE
 obtain ⟨B,hB⟩:∃ B,B=w.heap.size:=⟨_,rfl⟩
 obtain ⟨W0,hW0⟩:∃ W0,W0=w.alloc (.cells (y.cells f).toArray 64):=⟨_,rfl⟩
 obtain ⟨W1,hW1⟩:∃ W1,W1=W0.alloc (.cells #[.int .i64 0,.string ⟨#[]⟩,.int .i64 0,.slice none 0 0,.slice none 0 0,.slice none 0 0] 64):=⟨_,rfl⟩
 have hs0:W0.heap.size=B+1:=by rw [hW0,hB];simp
 have hs1:W1.heap.size=B+2:=by rw [hW1];simp [hs0]
 have hb1:Below w.heap.size w W1:=by rw [hW1,hW0];exact ((Below.refl _ _).alloc (Nat.le_refl _) _).alloc (by simp) _
 have kB:W1.heap[B]?=some (.cells (y.cells f).toArray 64 (0,0)):=by rw [hW1,heap_get,if_neg (by omega),hW0,heap_get,if_pos hB]
 have kR:W1.heap[B+1]?=some (.cells #[.int .i64 0,.string ⟨#[]⟩,.int .i64 0,.slice none 0 0,.slice none 0 0,.slice none 0 0] 64 (0,0)):=by rw [hW1,heap_get,if_pos hs0.symm]
 have hfm:=hfit
 have HFT:=Lh (fun (j:Nat) (hj:j<f.l.length)=>hfm)
 have HIH:=Lh ih
 have HX:=Lh hx
 have HF0:=Lh hF0
 have HE:=Lh hE
 obtain ⟨kind,fname,n,terms,binds,fl⟩:=f
 obtain ⟨yt,yb,yl⟩:=y
 have HSZ:=Lh (fun (j:Nat) (hj:j<fl.length)=>(show (fl[j]).size<=sz by have h1:=size_le_fsizes fl j hj;rw [Frm.size] at hsz;omega))
 have HFP:=Lh (fun (j:Nat) (hj:j<fl.length)=>hfit.part hj)
 have hsm:FrmSm (.mk kind fname n terms binds fl):=hfit.nodes _ (by rw [nodesF];exact List.mem_cons_self ..)
 have hsm:FrmSm (.mk kind fname n terms binds fl):=hfit.nodes _ (by rw [nodesF];exact List.mem_cons_self ..)
 have hsm:FrmSm (.mk kind fname n terms binds fl):=hfit.nodes _ (by rw [nodesF];exact List.mem_cons_self ..)
 have hsm:FrmSm (.mk kind fname n terms binds fl):=hfit.nodes _ (by rw [nodesF];exact List.mem_cons_self ..)
 have hsm:FrmSm (.mk kind fname n terms binds fl):=hfit.nodes _ (by rw [nodesF];exact List.mem_cons_self ..)
 have hsm:FrmSm (.mk kind fname n terms binds fl):=hfit.nodes _ (by rw [nodesF];exact List.mem_cons_self ..)
 have htl:terms.length<=2000000:=hsm.1
 have hll:fl.length<=2000000:=hsm.2.2.1
 have hnm:∀ t∈terms,t.name.length<=4000000:=hsm.2.2.2.2.1
 have HNM:=Lh hnm
 simp only [FrmA.cells,SlA.val,Frm.kind,Frm.name,Frm.n,Frm.terms,Frm.binds,Frm.l] at kB hW0 ⊢
 have HK:=Lh (aI hb1 (aI kB (aI kR (aI hB hs1))))
 have HCT:=Lh (clone_Trm terms yt W1 ((hx.terms.agree ((agree_of_below hb1).mono hF0)).mono (fun k hk=>by have:=hF0 k hk;omega)) htl)
 have HW:=Lh (aI hW0 (aI hW1 hB))
 have c3:W1.cell? ⟨B,3,none⟩=some (.slice yt.a terms.length yt.cap):=cH kB rfl
 have f3:W1.frozen? ⟨B,3,none⟩=false:=fH kB
 clear hx hF0 hE hfit hfm hsm hnm hb1 kB kR hB hW0 hW1 hs0 hs1 ih hsz HFT
 simp only [SlA.val] at HCT
 go_enter Tryz.func44,Tryz.ntmps44
 go_upto_region 1 with fail
 rw [<- HW.out.2.2]
 rw [<- HW.out.1,<- HW.out.2.1]
 go_wp2_with fail
 refine HCT.out.mono ?_
 rintro e w2 ⟨v,r,rfl,hown,hr,hb2⟩
 obtain ⟨at_,ct,rfl,hc1,hc2,g,hg⟩:=RowO.of_own hown (trm_wd terms)
 rw [List.length_map] at hc1 hg ⊢
 have kB2:=(hb2.block _ (gS HK.out.2.1).1).trans HK.out.2.1
 have kR2:=(hb2.block _ (gS HK.out.2.2.1).1).trans HK.out.2.2.1
 obtain ⟨W3,hW3⟩:∃ W3,W3=w2.setCell ⟨B,3,none⟩ (.slice at_ terms.length ct):=⟨_,rfl⟩
 have hM3:Chalk.Mod (fun k=>k=B) w2 W3:=by rw [hW3];exact (Chalk.Mod.refl (fun k=>k=B) _).setCell (p:=⟨B,3,none⟩) (fun _=>rfl) _
 have kB3:W3.heap[B]?=some (.cells #[.int .i64 kind,.string ⟨fname.toArray⟩,.int .i64 n,.slice at_ terms.length ct,.slice yb.a binds.length yb.cap,.slice yl.a fl.length yl.cap] 64 (0,0)):=by rw [hW3,box_store _ kB2];rfl
 have kR3:W3.heap[B+1]?=some (.cells #[.int .i64 0,.string ⟨#[]⟩,.int .i64 0,.slice none 0 0,.slice none 0 0,.slice none 0 0] 64 (0,0)):=heap_kept kR2 hM3 (by omega)
 have hbw3:Below w.heap.size w W3:=HK.out.1.trans ((hb2.mono HK.out.1.size).trans (hM3.below (by have:=hb2.size;have:=HK.out.1.size;omega) (fun k hk=>by have:=HK.out.2.2.2.1;omega)))
 have hgg:0<terms.length->at_=some ⟨g,0,none⟩/\B+2<=g/\RowO W3 (fun _=>False) 3 92 (terms.map Trm.toD) g:=fun hp=>by
  obtain ⟨h1,h2,h3⟩:=hg hp
  have h4:=hr g h2
  have h5:=HK.out.2.2.2.2
  exact ⟨h1,by omega,h3.kept hM3 (by omega) (fun _ h=>h.elim)⟩
 have HG:=Lh hgg
 have HW3:=Lh hW3
 have HC:=Lh (aI hc1 hc2)
 have HL1:Hid (∀ W,Chalk.Mod (fun k=>0<terms.length/\k=g) W3 W->W.heap[B]?=some (.cells #[.int .i64 kind,.string ⟨fname.toArray⟩,.int .i64 n,.slice at_ terms.length ct,.slice yb.a binds.length yb.cap,.slice yl.a fl.length yl.cap] 64 (0,0))/\W.heap[B+1]?=some (.cells #[.int .i64 0,.string ⟨#[]⟩,.int .i64 0,.slice none 0 0,.slice none 0 0,.slice none 0 0] 64 (0,0))/\PutE W M Q m'/\Below w.heap.size w W):=Lh (fun W hM=>by
  have hgB:∀ k,(0<terms.length/\k=g)->B+2<=k:=fun k hk=>hk.2 ▸ (HG.out hk.1).2.1
  have hbW:=hbw3.trans (hM.below hbw3.size (fun k hk=>by have:=hgB k hk;have:=HK.out.2.2.2.1;omega))
  exact ⟨heap_kept kB3 hM (fun h=>by have:=hgB _ h;omega),heap_kept kR3 hM (fun h=>by have:=hgB _ h;omega),HE.out.below hbW,hbW⟩)
 have c3':w2.cell? ⟨B,3,none⟩=some (.slice yt.a terms.length yt.cap):=cH kB2 rfl
 have f3':w2.frozen? ⟨B,3,none⟩=false:=fH kB2
 have d3:W3.cell? ⟨B,3,none⟩=some (.slice at_ terms.length ct):=cH kB3 rfl
 clear c3 f3 hown hr hb2 hc1 hc2 hg kB2 kR2 hM3 kB3 kR3 hbw3 hgg hW3 HCT
 go_upto_region 2 with fail
 rw [<- HW3.out]
 clear c3' f3'
 go_wp2_with fail
 clear d3
 go_loopw [18] (fun i wr=>∃ j:Nat,j<=terms.length/\i=.int .i64 j/\Hid (Chalk.Mod (fun k=>0<terms.length/\k=g) W3 wr)/\Hid (0<terms.length->RowO wr (fun _=>False) 3 92 ((upd (renT m) terms j).map Trm.toD) g)) (fun i _=>terms.length - (intOf i).toNat)
 case atStart=>exact ⟨0,Nat.zero_le _,rfl,Lh (Chalk.Mod.refl _ _),Lh (fun hp=>by rw [upd_zero];exact (HG.out hp).2.2)⟩
 case round =>
  obtain ⟨j,hj,rfl,HM,HR⟩:=hrel
  obtain ⟨kB,kR,hE,hbw⟩:=HL1.out wr HM.out
  by_cases hlt:j<terms.length
  ·have hp:0<terms.length:=by omega
   obtain ⟨ha,hgl,_⟩:=HG.out hp
   have hrow:=HR.out hp
   have hgb:=hrow.bound
   obtain ⟨q0,q1,q2,hfz⟩:=hrow.trm_at hlt
   have hnl:=HNM.out _ (List.getElem_mem hlt)
   obtain ⟨Wt,hWt⟩:∃ Wt,Wt=wr.alloc (.cells #[.int .i64 terms[j].kind,.string ⟨terms[j].name.toArray⟩,.int .i64 terms[j].n] 92):=⟨_,rfl⟩
   have hbt:Below wr.heap.size wr Wt:=by rw [hWt];exact (Below.refl _ _).alloc (Nat.le_refl _) _
   have b1:Wt.cell? ⟨wr.heap.size,1,none⟩=some (.string ⟨terms[j].name.toArray⟩):=cH (by rw [hWt,heap_get,if_pos rfl]) rfl
   have hEt:=hE.below hbt
   obtain ⟨⟨mb,m0,m1⟩,_⟩:=hEt
   have hlk:=txt_look (P:=Tryz.prog) Wt 103 _ _ mb m' terms[j].name Tryz.underlying103 Tryz.underlying9 Tryz.zeroValue9 m1
   have kBt:=(hbt.block _ (gS kB).1).trans kB
   have b3:Wt.cell? ⟨B,3,none⟩=some (.slice at_ terms.length ct):=cH kBt rfl
   have b5:Wt.cell? ⟨g,j*3+1,none⟩=some (.string ⟨terms[j].name.toArray⟩):=(hbt.cell (p:=⟨g,j*3+1,none⟩) hgb).trans q1
   have b6:Wt.frozen? ⟨g,j*3+1,none⟩=false:=by obtain ⟨cur,hc⟩:=(hrow.later hbt).obj;exact fH hc
   have HRT:=Lh (hrow.later hbt)
   have HMT:=Lh (HM.out.trans (Chalk.Mod.of_below (S:=fun _=>False) hbt) (fun _ _ h=>h.elim))
   have HWT:=Lh hWt
   have HNX:=Lh (hm terms[j].name)
   have HUP:=Lh (fun (x:Trm) (h:renT m terms[j]=x)=>(show upd (renT m) terms (j+1)=(upd (renT m) terms j).set j x by rw [upd_succ _ _ _ hlt,h]))
   have HUS:=Lh (fun (h:renT m terms[j]=terms[j])=>(show upd (renT m) terms (j+1)=upd (renT m) terms j by rw [upd_succ _ _ _ hlt,h];exact set_self hlt))
   have HLX:=Lh (fun (x:Bs) (h:txtGet m' terms[j].name=some x)=>(by unfold txtGet at h;obtain ⟨q,hq,e⟩:=Option.map_eq_some_iff.1 h;rw [<- e];exact hml q (List.mem_of_find?_eq_some hq):x.length<=4000000))
   have HLT:=Lh hlt
   have HST:=Lh (fun (x:Bs) (hx:x.length<=maxLen)=>(HRT.out.trm (j:=j) (nm:=x) (by rw [upd_len];exact hlt) hx))
   have HGE:=Lh (upd_get (renT m) terms j hlt)
   rw [ha] at b3 ⊢
   clear kB kR hE hbw ha hgl hrow hgb hfz hWt hbt m1 kBt
   generalize htj:terms[j]=tj at q0 q1 q2 hnl b1 b5 hlk HWT HNX HUP HUS HLX HGE
   have HTJ:=Lh htj
   clear htj
   obtain ⟨tk,tn,tv⟩:=tj
   simp only at q0 q1 q2 hnl b1 b5 hlk HWT HNX HUP HUS HLX
   rcases hget:txtGet m' tn with _ | x
   ·rw [hget] at hlk HNX
    simp only [Option.getD_none,Option.isSome_none] at hlk
    have HRN:=Lh (HUS.out (by unfold renT;rw [<- HNX.out]))
    clear hget
    go_upto_region 5 with fail
    rw [<- HWT.out]
    go_wp2_with fail
    refine ⟨⟨j+1,by omega,by go_num,HMT,Lh (fun _=>by rw [HRN.out];exact HRT.out)⟩,by simp [intOf];omega⟩
   ·rw [hget] at hlk HNX
    simp only [Option.getD_some,Option.isSome_some] at hlk
    have HRN:=Lh (HUP.out ⟨tk,x,tv⟩ (by unfold renT;rw [<- HNX.out]))
    have hxl:=HLX.out x hget
    have HSX:=Lh (HST.out x (by unfold maxLen;omega))
    clear hget
    go_upto_region 5 with fail
    rw [<- HWT.out]
    go_wp2_with fail
    refine ⟨⟨j+1,by omega,by go_num,Lh (HMT.out.setCell (p:=⟨g,j*3+1,none⟩) (fun _=>⟨by have:=HLT.out;omega,rfl⟩) _),Lh (fun _=>?_)⟩,by simp [intOf];omega⟩
    rw [HRN.out]
    have h:=HSX.out
    rw [HGE.out] at h
    exact h
  ·have hjl:j=terms.length:=by omega
   subst hjl
   have HRF:=Lh (fun (hp:0<terms.length)=>(by have:=HR.out hp;rwa [upd_all] at this:RowO wr (fun _=>False) 3 92 ((terms.map (renT m)).map Trm.toD) g))
   clear HR
   obtain ⟨w4,rfl⟩:∃ w4,w4=wr:=⟨wr,rfl⟩
   have HCF:=Lh (fun (W:World) (hb:Below w.heap.size w W)=>clone_Frm fl yl W F0 (fun k hk=>Nat.lt_of_lt_of_le (HF0.out k hk) hb.size) (HX.out.l.agree ((agree_of_below hb).mono HF0.out)) hll)
   simp only [SlA.val] at HCF
   have HS4:=Lh (aI kB (aI kR hbw))
   have c5:w4.cell? ⟨B,5,none⟩=some (.slice yl.a fl.length yl.cap):=cH kB rfl
   have f5:w4.frozen? ⟨B,5,none⟩=false:=fH kB
   clear kB kR hE hbw
   go_wp2_with fail
   refine (HCF.out w4 HS4.out.2.2).mono ?_
   rintro e w5 ⟨v2,r2,rfl,hown,hr,hb5⟩
   obtain ⟨al,cl,rfl,hc1,hc2,g2,hg⟩:=RowO.of_own hown (frm_wd fl)
   rw [List.length_map] at hc1 hg ⊢
   have kB5:=(hb5.block _ (gS HS4.out.1).1).trans HS4.out.1
   have kR5:=(hb5.block _ (gS HS4.out.2.1).1).trans HS4.out.2.1
   obtain ⟨W6,hW6⟩:∃ W6,W6=w5.setCell ⟨B,5,none⟩ (.slice al fl.length cl):=⟨_,rfl⟩
   have hM6:Chalk.Mod (fun k=>k=B) w5 W6:=by rw [hW6];exact (Chalk.Mod.refl (fun k=>k=B) _).setCell (p:=⟨B,5,none⟩) (fun _=>rfl) _
   have kB6:W6.heap[B]?=some (.cells #[.int .i64 kind,.string ⟨fname.toArray⟩,.int .i64 n,.slice at_ terms.length ct,.slice yb.a binds.length yb.cap,.slice al fl.length cl] 64 (0,0)):=by rw [hW6,box_store _ kB5];rfl
   have kR6:W6.heap[B+1]?=some (.cells #[.int .i64 0,.string ⟨#[]⟩,.int .i64 0,.slice none 0 0,.slice none 0 0,.slice none 0 0] 64 (0,0)):=heap_kept kR5 hM6 (by omega)
   have hlt4:B<w4.heap.size:=(gS HS4.out.1).1
   have hbw6:Below w.heap.size w W6:=HS4.out.2.2.trans ((hb5.mono HS4.out.2.2.size).trans (hM6.below (by have:=hb5.size;have:=HS4.out.2.2.size;omega) (fun k hk=>by have:=HK.out.2.2.2.1;omega)))
   have hM46:Chalk.Mod (fun k=>k=B) w4 W6:=(Chalk.Mod.of_below (S:=fun k=>k=B) hb5).trans hM6 (fun _ _ h=>h)
   have hgg:0<fl.length->al=some ⟨g2,0,none⟩/\w4.heap.size<=g2/\g2<W6.heap.size/\RowO W6 F0 6 64 (fl.map Frm.toD) g2:=fun hp=>by
    obtain ⟨h1,h2,h3⟩:=hg hp
    have h4:=hr g2 h2
    have h5:=h3.kept hM6 (by omega) (fun k hk e=>by have:=HF0.out k hk;have:=HK.out.2.2.2.1;omega)
    exact ⟨h1,by omega,h5.bound,h5⟩
   have HRT:=Lh (fun (hp:0<terms.length)=>(by
    have h1:=HRF.out hp
    have h2:=(HG.out hp).2.1
    exact h1.kept hM46 (by omega) (fun _ h=>h.elim):RowO W6 (fun _=>False) 3 92 ((terms.map (renT m)).map Trm.toD) g))
   have HGT:=Lh (fun (hp:0<terms.length)=>(by have h1:=(HRF.out hp).bound;have h2:=(HG.out hp).2.1;exact ⟨h2,h1⟩:B+2<=g/\g<w4.heap.size))
   have HG2:=Lh hgg
   have HSW:=Lh hM46.size
   have HW6:=Lh hW6
   have HC2:=Lh (aI hc1 hc2)
   have HL2:Hid (∀ W,Chalk.Mod (fun k=>0<fl.length/\k=g2) W6 W->W.heap[B]?=some (.cells #[.int .i64 kind,.string ⟨fname.toArray⟩,.int .i64 n,.slice at_ terms.length ct,.slice yb.a binds.length yb.cap,.slice al fl.length cl] 64 (0,0))/\W.heap[B+1]?=some (.cells #[.int .i64 0,.string ⟨#[]⟩,.int .i64 0,.slice none 0 0,.slice none 0 0,.slice none 0 0] 64 (0,0))/\PutE W M Q m'/\Below w.heap.size w W):=Lh (fun W hM=>by
    have hgB:∀ k,(0<fl.length/\k=g2)->w4.heap.size<=k:=fun k hk=>hk.2 ▸ (HG2.out hk.1).2.1
    have hlt5:B+1<w4.heap.size:=(gS HS4.out.2.1).1
    have hbW:=hbw6.trans (hM.below hbw6.size (fun k hk=>by have:=hgB k hk;have:=HS4.out.2.2.size;omega))
    exact ⟨heap_kept kB6 hM (fun h=>by have:=hgB _ h;omega),heap_kept kR6 hM (fun h=>by have:=hgB _ h;omega),HE.out.below hbW,hbW⟩)
   have c5':w5.cell? ⟨B,5,none⟩=some (.slice yl.a fl.length yl.cap):=cH kB5 rfl
   have f5':w5.frozen? ⟨B,5,none⟩=false:=fH kB5
   have d5:W6.cell? ⟨B,5,none⟩=some (.slice al fl.length cl):=cH kB6 rfl
   clear c5 f5 hown hr hb5 hc1 hc2 hg kB5 kR5 hM6 kB6 kR6 hbw6 hgg hW6 HCF hM46 hlt4 hlt hj HM HL1
   go_upto_region 10 with fail
   rw [<- HW6.out]
   clear c5' f5'
   go_wp2_with fail
   clear d5
   go_loopw [45] (fun i wr=>∃ j:Nat,j<=fl.length/\i=.int .i64 j/\Hid (Chalk.Mod (fun k=>0<fl.length/\k=g2) W6 wr)/\Hid (0<fl.length->RowO wr (fun k=>F0 k∨(W6.heap.size<=k/\k<wr.heap.size)) 6 64 ((upd (renF m) fl j).map Frm.toD) g2)) (fun i _=>fl.length - (intOf i).toNat)
   case atStart=>exact ⟨0,Nat.zero_le _,rfl,Lh (Chalk.Mod.refl _ _),Lh (fun hp=>by rw [upd_zero];exact (HG2.out hp).2.2.2.widen (fun _ h=>.inl h) (fun h=>by have h1:=(HG2.out hp).2.2;rcases h with h | h;exact h1.2.off h;omega) (fun k hk=>by rcases hk with h | h;exact (HG2.out hp).2.2.2.lt k h;omega))⟩
   case round =>
    obtain ⟨j,hj,rfl,HM,HR⟩:=hrel
    obtain ⟨kB,kR,hE,hbw⟩:=HL2.out wr HM.out
    by_cases hlt:j<fl.length
    ·have hp:0<fl.length:=by omega
     obtain ⟨ha,hgl,hgu,_⟩:=HG2.out hp
     have hrow:=HR.out hp
     have hgb:=hrow.bound
     have hws:=HM.out.size
     obtain ⟨yj,hyj,hcj,hfz⟩:=hrow.frm_at hlt
     obtain ⟨q0,q1,q2,q3,q4,q5⟩:=CellsAt.six hcj
     obtain ⟨Wt,hWt⟩:∃ Wt,Wt=wr.alloc (.cells (yj.cells fl[j]).toArray 64):=⟨_,rfl⟩
     have hbt:Below wr.heap.size wr Wt:=by rw [hWt];exact (Below.refl _ _).alloc (Nat.le_refl _) _
     have kt:Wt.heap[wr.heap.size]?=some (.cells (yj.cells fl[j]).toArray 64 (0,0)):=by rw [hWt,heap_get,if_pos rfl]
     have hbwt:=hbw.trans (hbt.mono hbw.size)
     have hEt:=hE.below hbt
     have kBt:=(hbt.block _ (gS kB).1).trans kB
     have hst:Wt.heap.size=wr.heap.size+1:=by rw [hWt];simp
     have HRT2:=Lh (hrow.later hbt)
     have HMT:=Lh (HM.out.trans (Chalk.Mod.of_below (S:=fun _=>False) hbt) (fun _ _ h=>h.elim))
     have HCALL:=Lh (fun (W:World) (hW:Below Wt.heap.size Wt W)=>HIH.out fl[j] (HSZ.out j hlt) (HFP.out j hlt) yj W (fun k=>F0 k∨(W6.heap.size<=k/\k<wr.heap.size)) ((hyj.agree ((agree_of_below hbt).mono hrow.lt)).agree ((agree_of_below hW).mono (fun k hk=>by have:=hrow.lt k hk;omega))) (fun k hk=>by have:=hrow.lt k hk;have:=hW.size;omega) (hEt.below hW))
     have HCX:Hid (∀ W,Below Wt.heap.size Wt W->W.cell? ⟨B,5,none⟩=some (.slice (some ⟨g2,0,none⟩) fl.length cl)/\W.cell? ⟨Q,0,none⟩=some (.func (.func 44) #[] #[.pointer (some ⟨M,0,none⟩),.pointer (some ⟨Q,0,none⟩)])/\W.cell? ⟨wr.heap.size,0,none⟩=some (.int .i64 fl[j].kind)/\W.cell? ⟨wr.heap.size,1,none⟩=some (.string ⟨fl[j].name.toArray⟩)/\W.cell? ⟨wr.heap.size,2,none⟩=some (.int .i64 fl[j].n) /\
       W.cell? ⟨wr.heap.size,3,none⟩=some (yj.t.val fl[j].terms.length)/\W.cell? ⟨wr.heap.size,4,none⟩=some (yj.b.val fl[j].binds.length)/\W.cell? ⟨wr.heap.size,5,none⟩=some (yj.l.val fl[j].l.length)):=Lh (fun W hW=>by
      have k1:=(hW.block _ (gS kBt).1).trans kBt
      have k2:=(hW.block _ (gS kt).1).trans kt
      rw [ha] at k1
      exact ⟨cH k1 rfl,(hEt.below hW).fn,cH k2 rfl,cH k2 rfl,cH k2 rfl,cH k2 rfl,cH k2 rfl,cH k2 rfl⟩)
     have hcjt:CellsAt Wt g2 (j*6) (yj.cells fl[j]):=hcj.agree (F:=fun k=>k<wr.heap.size) (agree_of_below hbt) hgb
     have HCJ:=Lh hcjt
     have HUP:=Lh (show upd (renF m) fl (j+1)=(upd (renF m) fl j).set j (renF m fl[j]) from upd_succ _ _ _ hlt)
     have HLT:=Lh hlt
     have HWT:=Lh hWt
     have HSZ2:=Lh (aI hst (aI hgb (aI hgu hws)))
     have hent:∀ args w,(callFunc 44 args).run Tryz.prog w=.ok (.enter 44 args) w:=enters_of Tryz.func44 (by kernel_rfl) rfl
     rw [ha]
     clear kB kR hE hbw ha hgl hgu hrow hgb hfz hWt hbt kt hbwt hEt kBt hst hcj hyj hcjt hws
     generalize hfj:fl[j]=fj at q0 q1 q2 q3 q4 q5 HCALL HCX HCJ HUP HWT
     clear hfj
     obtain ⟨kj,nj,mj,tj,bj,lj⟩:=fj
     obtain ⟨yjt,yjb,yjl⟩:=yj
     simp only [FrmA.cells,SlA.val,Frm.kind,Frm.name,Frm.n,Frm.terms,Frm.binds,Frm.l] at q0 q1 q2 q3 q4 q5 HCALL HCX HCJ HWT
     go_upto_region 13 with fail
     rw [<- HWT.out]
     clear q0 q1 q2 q3 q4 q5
     refine wp_region_U 7 (S:=fun W=>Below Wt.heap.size Wt W) (by kernel_rfl) (Below.refl _ _).drew (fun hHeld=>?_)
     refine tkH (i:=0) rfl hHeld HCX ?_
     refine tkH (i:=1) rfl hHeld HCX ?_
     refine tkH (i:=2) rfl hHeld HCX ?_
     refine tkH (i:=3) rfl hHeld HCX ?_
     refine tkH (i:=4) rfl hHeld HCX ?_
     refine ready_U (rs:=[5]) (by kernel_rfl) (by simp) ?_
     refine cons_U rfl (fun K hK=>?_) nil_U
     go_simp
     refine (HCALL.out _ hHeld).mono ?_
     rintro e w7 ⟨y',rfl,hy',hb7⟩
     have HB7:=Lh (aI hb7 (aI hy' hHeld))
     clear hb7 hy'
     go_simp
     refine hK.out _ _ (Below.trans hHeld (Below.mono HB7.out.1 (Below.size hHeld))) fun hHeld=>?_
     clear hK K
     try simp only [Act.put,ub1,ub2,ub3]
     refine tkH (i:=6) rfl hHeld HCX ?_
     have H8:=Lh (aI HB7.out hHeld)
     clear HB7 HCALL HCX
     generalize renF m (Frm.mk kj nj mj tj bj lj)=FR at H8 HUP ⊢
     obtain ⟨rk,rn,rm,rt,rb,rl⟩:=FR
     obtain ⟨yt',yb',yl'⟩:=y'
     simp only [FrmA.cells,SlA.val,Frm.kind,Frm.name,Frm.n,Frm.terms,Frm.binds,Frm.l] at H8 HCJ ⊢
     have hcj8:=HCJ.out.agree (F:=fun k=>k<Wt.heap.size) (agree_of_below hHeld) (by have:=HSZ2.out;omega)
     have hr8:=HRT2.out.later hHeld
     obtain ⟨q0,q1,q2,q3,q4,q5⟩:=CellsAt.six hcj8
     have hfz:∀ o,w7.frozen? ⟨g2,o,none⟩=false:=fun o=>by obtain ⟨cur,hc⟩:=hr8.obj;exact fH hc
     have z0:=hfz (j*6)
     have z1:=hfz (j*6+1)
     have z2:=hfz (j*6+2)
     have z3:=hfz (j*6+3)
     have z4:=hfz (j*6+4)
     have z5:=hfz (j*6+5)
     have HR8:=Lh (aI hr8 hcj8)
     clear hHeld hcj8 hr8 hfz
     refine ready_U (rs:=[7]) (by kernel_rfl) (by simp) ?_
     refine cons_V rfl (by kernel_rfl) (fun K hK=>?_) nil_U
     go_simp
     refine hK.out _ _ ?_
     clear hK K
     try simp only [Act.put,ub1,ub2,ub3]
     refine done_U (by kernel_rfl) ?_ _
     go_wp2_with fail
     refine ⟨⟨j+1,by omega,by go_num,Lh ?_,Lh (fun _=>?_)⟩,by simp [intOf];omega⟩
     ·obtain ⟨cur,hobj⟩:=HR8.out.1.obj
      obtain ⟨hM,_,_,_⟩:=put6o_row hobj HR8.out.2 (.int .i64 rk) (.string ⟨rn.toArray⟩) (.int .i64 rm) (.slice yt'.a rt.length yt'.cap) (.slice yb'.a rb.length yb'.cap) (.slice yl'.a rl.length yl'.cap)
      exact (HMT.out.trans (Chalk.Mod.of_below (S:=fun _=>False) H8.out.2) (fun _ _ h=>h.elim)).trans hM (fun k _ hk=>⟨hp,hk⟩)
     ·obtain ⟨cur,hobj⟩:=HR8.out.1.obj
      obtain ⟨hM,ho,hout,hin⟩:=put6o_row hobj HR8.out.2 (.int .i64 rk) (.string ⟨rn.toArray⟩) (.int .i64 rm) (.slice yt'.a rt.length yt'.cap) (.slice yb'.a rb.length yb'.cap) (.slice yl'.a rl.length yl'.cap)
      have hs7:=H8.out.2.size
      have hsz:=HSZ2.out
      have hw7:=HR8.out.1.widen (G:=fun k=>F0 k∨(W6.heap.size<=k/\k<w7.heap.size)) (fun k hk=>by rcases hk with h | h;exact .inl h;exact .inr ⟨h.1,by omega⟩) (fun h=>by rcases h with h | h;exact HR8.out.1.off (.inl h);omega) (fun k hk=>by rcases hk with h | h;exact HR8.out.1.lt k (.inl h);exact h.2)
      have hf7:=H8.out.1.2.1.mono (G:=fun k=>F0 k∨(W6.heap.size<=k/\k<w7.heap.size)) (fun k hk=>by rcases hk with (h | h) | h;exact .inl h;exact .inr ⟨h.1,by omega⟩;exact .inr ⟨by have h1:Wt.heap.size<=k:=h.1;omega,h.2⟩)
      have hfin:=hw7.frm (j:=j) (by rw [upd_len];exact HLT.out) hf7 hM ho (fun o h=>hout o (by omega)) hin
      rw [HUP.out]
      have hse:(put6o w7 g2 (j*6) (.int .i64 rk) (.string ⟨rn.toArray⟩) (.int .i64 rm) (.slice yt'.a rt.length yt'.cap) (.slice yb'.a rb.length yb'.cap) (.slice yl'.a rl.length yl'.cap)).heap.size=w7.heap.size:=by simp [put6o]
      exact hfin.widen (fun k hk=>by rcases hk with h | h;exact .inl h;exact .inr ⟨h.1,by show k<(put6o _ _ _ _ _ _ _ _ _).heap.size;rw [hse];exact h.2⟩) (fun h=>by rcases h with h | h;exact hfin.off (.inl h);omega) (fun k hk=>by rcases hk with h | h;exact hfin.lt k (.inl h);exact h.2)
    ·have hjl:j=fl.length:=by omega
     subst hjl
     have HRL:=Lh (fun (hp:0<fl.length)=>(by have:=HR.out hp;rwa [upd_all] at this:RowO wr (fun k=>F0 k∨(W6.heap.size<=k/\k<wr.heap.size)) 6 64 ((fl.map (renF m)).map Frm.toD) g2))
     have HFN:=Lh (aI kR hbw)
     have e0:wr.cell? ⟨B,0,none⟩=some (.int .i64 kind):=cH kB rfl
     have e1:wr.cell? ⟨B,1,none⟩=some (.string ⟨fname.toArray⟩):=cH kB rfl
     have e2:wr.cell? ⟨B,2,none⟩=some (.int .i64 n):=cH kB rfl
     have e3:wr.cell? ⟨B,3,none⟩=some (.slice at_ terms.length ct):=cH kB rfl
     have e4:wr.cell? ⟨B,4,none⟩=some (.slice yb.a binds.length yb.cap):=cH kB rfl
     have e5:wr.cell? ⟨B,5,none⟩=some (.slice al fl.length cl):=cH kB rfl
     have r0:wr.cell? ⟨B+1,0,none⟩=some (.int .i64 0):=cH kR rfl
     have r1:wr.cell? ⟨B+1,1,none⟩=some (.string ⟨#[]⟩):=cH kR rfl
     have r2:wr.cell? ⟨B+1,2,none⟩=some (.int .i64 0):=cH kR rfl
     have r3:wr.cell? ⟨B+1,3,none⟩=some (.slice none 0 0):=cH kR rfl
     have r4:wr.cell? ⟨B+1,4,none⟩=some (.slice none 0 0):=cH kR rfl
     have r5:wr.cell? ⟨B+1,5,none⟩=some (.slice none 0 0):=cH kR rfl
     have z0:wr.frozen? ⟨B+1,0,none⟩=false:=fH kR
     have z1:wr.frozen? ⟨B+1,1,none⟩=false:=fH kR
     have z2:wr.frozen? ⟨B+1,2,none⟩=false:=fH kR
     have z3:wr.frozen? ⟨B+1,3,none⟩=false:=fH kR
     have z4:wr.frozen? ⟨B+1,4,none⟩=false:=fH kR
     have z5:wr.frozen? ⟨B+1,5,none⟩=false:=fH kR
     clear kB kR hE hbw HR
     go_wp2_with fail
     rw [put6_eq]
     have hfw:=put6_heap (c0:=.int .i64 kind) (c1:=.string ⟨fname.toArray⟩) (c2:=.int .i64 n) (c3:=.slice at_ terms.length ct) (c4:=.slice yb.a binds.length yb.cap) (c5:=.slice al fl.length cl) HFN.out.1
     have hmw:=put6_mod wr (B+1) (.int .i64 kind) (.string ⟨fname.toArray⟩) (.int .i64 n) (.slice at_ terms.length ct) (.slice yb.a binds.length yb.cap) (.slice al fl.length cl)
     generalize put6 wr (B+1) (.int .i64 kind) (.string ⟨fname.toArray⟩) (.int .i64 n) (.slice at_ terms.length ct) (.slice yb.a binds.length yb.cap) (.slice al fl.length cl)=WF at hfw hmw ⊢
     have y0:WF.cell? ⟨B+1,0,none⟩=some (.int .i64 kind):=cH hfw rfl
     have y1:WF.cell? ⟨B+1,1,none⟩=some (.string ⟨fname.toArray⟩):=cH hfw rfl
     have y2:WF.cell? ⟨B+1,2,none⟩=some (.int .i64 n):=cH hfw rfl
     have y3:WF.cell? ⟨B+1,3,none⟩=some (.slice at_ terms.length ct):=cH hfw rfl
     have y4:WF.cell? ⟨B+1,4,none⟩=some (.slice yb.a binds.length yb.cap):=cH hfw rfl
     have y5:WF.cell? ⟨B+1,5,none⟩=some (.slice al fl.length cl):=cH hfw rfl
     refine bodyPost_ret (v:=.agg #[.int .i64 kind,.string ⟨fname.toArray⟩,.int .i64 n,.slice at_ terms.length ct,.slice yb.a binds.length yb.cap,.slice al fl.length cl]) (by simp [results,Tryz.results44,go_sem,y0,y1,y2,y3,y4,y5]) rfl ?_
     have hK:=HK.out.2.2.2
     have hs4:=HS4.out.2.2.size
     have hws:=HM.out.size
     have hwf:=hmw.size
     have hb6:B+1<w4.heap.size:=(gS HS4.out.2.1).1
     have hren:renF m (.mk kind fname n terms binds fl)=.mk kind fname n (terms.map (renT m)) binds (fl.map (renF m)):=by rw [renF,renL_map]
     have hbW:Below w.heap.size w WF:=HFN.out.2.trans (hmw.below (by have:=HFN.out.2.size;omega) (fun k hk=>by omega))
     refine ⟨⟨⟨at_,g,0,ct⟩,yb,⟨al,g2,0,cl⟩⟩,by rw [hren];simp [FrmA.cells,Frm.kind,Frm.name,Frm.n,Frm.terms,Frm.binds,Frm.l],?_,hbW⟩
     rw [hren]
     refine ⟨HX.out.kind,HX.out.name,HX.out.n,RowO.slN (n:=terms.length) (sz:=3) (e:=92) (F:=fun _=>False) (by simp [Frm.terms]) (fun hp=>⟨(HG.out hp).1,?_⟩) (fun _ h=>h.elim) (fun hp=>?_) HC.out.1 HC.out.2,?_,RowO.slN (n:=fl.length) (sz:=6) (e:=64) (F:=fun k=>F0 k∨(W6.heap.size<=k/\k<wr.heap.size)) (by simp [Frm.l]) (fun hp=>⟨(HG2.out hp).1,?_⟩) (fun k hk=>?_) (fun hp=>?_) HC2.out.1 HC2.out.2⟩
     ·exact ((HRT.out hp).kept HM.out (fun h=>by have h1:=HGT.out hp;have h2:=(HG2.out h.1).2.1;omega) (fun _ h=>h.elim)).kept hmw (fun h=>by have h1:=HGT.out hp;omega) (fun _ h=>h.elim)
     ·have h1:=HGT.out hp
      have h6:=(HRT.out hp).bound
      exact .inr ⟨by omega,by omega⟩
     ·exact (SlIn.agree HX.out.binds ((agree_of_below hbW).mono HF0.out)).mono (fun k hk=>.inl hk)
     ·exact (HRL.out hp).kept hmw (fun h=>by have h2:=(HG2.out hp).2.1;omega) (fun k hk e=>by rcases hk with h | h;have:=HF0.out k h;omega;have:=(HG2.out hp).2;omega)
     ·rcases hk with h | h
      ·exact .inl h
      ·exact .inr ⟨by have h9:w4.heap.size<=W6.heap.size:=HSW.out;omega,by omega⟩
     ·have h1:=(HG2.out hp).2
      exact .inr ⟨by omega,by omega⟩
end Go.Proofs.YtncnnbmeacpboaaGreatDoor
/- tell.sentence. (written by tools/gen_usen.py) -/
namespace Go.Chalk
open Go.RowKit
theorem Mod.then_below {S:Nat->Prop} {a b c:World} {B:Nat} (h:Mod S a b) (k:Below B b c) (hB:a.heap.size<=B):Mod S a c :=
 ⟨k.os.trans h.os,k.tape.trans h.tape,k.output.trans h.output,Nat.le_trans h.size k.size,fun i hi hs=>(k.block i (by omega)).trans (h.block i hi hs)⟩
theorem elsR_cases {s:Schl} {l:List Rul} {i:Ins} (hok:okF s l=0):(elsR s l i=([],1)/\sentF s l i=([],1)) ∨
  ∃ (k:Nat) (hk:k<l.length) (ns:List Bs),i.rule=k/\elsR s l i=(ns,0)/\ns.length=(l[k]).each.length/\(∀ x∈ns,x.length<=64) /\
   sentF s l i=(if (synText (renF (((l[k]).each.map Bnd.name).zip ns) (l[k]).body)).2 ≠ 0 then ([],(synText (renF (((l[k]).each.map Bnd.name).zip ns) (l[k]).body)).2)
    else (sentHead (l[k]).name (((l[k]).each.map Bnd.name).zip ns)++([58,32]++(synText (renF (((l[k]).each.map Bnd.name).zip ns) (l[k]).body)).1),0)):=by
 cases he:elsF s l i with
 | none=>exact .inl ⟨by unfold elsR;rw [he],by unfold sentF;rw [he]⟩
 | some ns =>
  right
  have he2:=he
  unfold elsF at he
  split at he
  ·cases he
  rename_i h0
  split at he
  ·cases he
  rename_i r hr
  split at he
  ·cases he
  obtain ⟨hk,hrk⟩:=List.getElem?_eq_some_iff.1 hr
  refine ⟨i.rule.toNat,hk,ns,by omega,by unfold elsR;rw [he2],?_,?_,?_⟩
  ·rw [hrk];exact els_len _ _ _ he
  ·exact els_len64 (right_zero hok).1 _ _ _ he
  ·unfold sentF;rw [he2,hr,hrk]
theorem flats_append:∀ (a b:List D),flats (a++b)=(flats a&&flats b)
 | [],b=>by simp [flats]
 | x :: r,b=>by rw [List.cons_append,flats,flats,flats_append r b,Bool.and_assoc]
theorem flats_pairs:∀ (m:List (Bs×Bs)),flats (m.map (fun p=>dstr (pairTxt p)))=true
 | []=>rfl
 | p :: r=>by rw [List.map_cons,flats,flats_pairs r];rfl
end Go.Chalk
namespace Go.Proofs.YtncnnbmeacpboaaGreatDoor
open Go.RowKit Go.Chalk
attribute [local go_sem] Oper.semAt_some
def SenP (w:World) (r:Bs×Int) (e:Ending) (w':World):Prop:=e=.returned (.tuple #[.string ⟨r.1.toArray⟩,.int .i64 r.2])/\Below w.heap.size w w'
theorem SenP.mk' {w w':World} {r:Bs×Int} {b:Bs} {c:Int} (h:r=(b,c)) (hb:Below w.heap.size w w'):SenP w r (.returned (.tuple #[.string ⟨b.toArray⟩,.int .i64 c])) w':=by subst h;exact ⟨rfl,hb⟩
theorem join7_any (ps:List Bs) (x0:SlA) (w:World) (hx:SlIn w (·<w.heap.size) (ps.map dstr) x0) (hl:ps.length<=1000) (hj:(Lib.join ps [44,32]).length<=1000000) :
  Calls Tryz.prog 48 #[.slice x0.a ps.length x0.cap,.string ⟨#[44,32]⟩] w fun e w'=>e=.returned (.string ⟨(Lib.join ps [44,32]).toArray⟩)/\Below w.heap.size w w':=by
 rcases ps with _ | ⟨p,r⟩
 ·exact (Tryz.strings_Join_none x0.a x0.cap ⟨#[44,32]⟩ w).mono fun e w' ⟨h1,h2⟩=>⟨h1,by rw [h2];exact Below.refl _ _⟩
 ·obtain ⟨n1,n2,n3,n4,_⟩:=hx.flat dstr_flat
  obtain ⟨hna,hnb⟩:=n1 (by simp)
  have hmm:((p :: r).map (fun l=>(⟨l.toArray⟩:ByteArray))).map (·.data.toList)=p :: r:=by rw [List.map_map];exact (List.map_congr_left (fun _ _=>rfl)).trans (List.map_id _)
  have hj2:=Tryz.strings_Join x0.b x0.o x0.cap ((p :: r).map (fun l=>(⟨l.toArray⟩:ByteArray))) ⟨#[44,32]⟩ w (fun j y hy=>by
   rw [List.getElem?_map] at hy
   obtain ⟨q,hq,rfl⟩:=Option.map_eq_some_iff.1 hy
   obtain ⟨hjl,rfl⟩:=List.getElem?_eq_some_iff.1 hq
   have:=n4.one j hjl rfl
   rwa [Nat.mul_one] at this) hnb (by rw [List.length_map];omega) (by rw [List.length_map];simpa using n2) (by rw [hmm,show (⟨#[44,32]⟩:ByteArray).data.toList=[44,32] from rfl];omega)
  rw [hmm,show (⟨#[44,32]⟩:ByteArray).data.toList=[44,32] from rfl,List.length_map] at hj2
  rw [hna]
  exact hj2
theorem bytes7_text {w:World} {v:Value} {l:Bs} (h:BytesV w v l):(convert 71 9 v).run Tryz.prog w=.ok (.string ⟨l.toArray⟩) w:=by
 obtain ⟨a,b,o,cap,rfl,h1,h2⟩:=h
 exact h1.text (P:=Tryz.prog) 71 5 9 Tryz.underlying71 Tryz.underlying5 Tryz.underlying9 cap
theorem synText_len {f:Frm}:(synText f).1.length<=16384:=by
 unfold synText
 split
 ·simp
 ·split
  ·simp
  ·simp only;omega
theorem sentence_any (s:Schl) (x:SchA) (l:List Rul) (z:SlA) (i:Inx) (y:InxA) (w:World) (hI:ItoaAt) (hs:SchIn w (·<w.heap.size) s x) (hf:SchFit s) (hz:SlIn w (·<w.heap.size) (l.map Rul.toD) z) (hl:l.length<=2000000) (hfr:∀ r∈l,RulFit r) (hy:InxIn w (·<w.heap.size) i y) (hbl:i.binds.length<=2000000) (hg:GS w) (hok:okF s l=0) :
  Calls Tryz.prog 24 #[.agg (x.cells s).toArray,.slice z.a l.length z.cap,.agg (y.cells i).toArray] w (SenP w (sentF s l i.ins)):=by
 obtain ⟨R,hR⟩:∃ R,R=sentF s l i.ins:=⟨_,rfl⟩
 have HCS:=Lh (elsR_cases (s:=s) (l:=l) (i:=i.ins) hok)
 rw [<- hR] at HCS ⊢
 clear hR
 obtain ⟨W1,hW1⟩:∃ W1,W1=w.alloc (.cells (x.cells s).toArray 28):=⟨_,rfl⟩
 obtain ⟨W2,hW2⟩:∃ W2,W2=W1.alloc (.cells (y.cells i).toArray 35):=⟨_,rfl⟩
 have hs1:W1.heap.size=w.heap.size+1:=by rw [hW1];simp
 have hs2:W2.heap.size=w.heap.size+2:=by rw [hW2];simp [hs1]
 have hb2:Below w.heap.size w W2:=by rw [hW2,hW1];exact ((Below.refl _ _).alloc (Nat.le_refl _) _).alloc (by simp) _
 have g1:W2.heap[w.heap.size]?=some (.cells (x.cells s).toArray 28 (0,0)):=by rw [hW2,heap_get,if_neg (by omega),hW1,heap_get,if_pos rfl]
 have g2:W2.heap[w.heap.size+1]?=some (.cells (y.cells i).toArray 35 (0,0)):=by rw [hW2,heap_get,if_pos hs1.symm]
 have HEL:=Lh (elements7_any s x l z i y W2 hI (hs.later hb2 hb2.size) hf (hz.later hb2 hb2.size) hl (hy.later hb2 hb2.size) hbl (fun r hr=>by have:=(hfr r hr).len;omega))
 have HV:=Lh (rules_v hok)
 have HFR:=Lh hfr
 have HZ:=Lh hz
 have HGS:=Lh hg
 obtain ⟨E,hE⟩:∃ E,E=elsR s l i.ins:=⟨_,rfl⟩
 rw [<- hE] at HEL HCS
 clear hE
 obtain ⟨rule,bi,tr⟩:=i
 simp only [InxA.cells,SchA.cells,SlA.val] at g1 g2 hW1 hW2 HEL HCS hbl ⊢
 have HK:=Lh (aI hb2 (aI g1 (aI g2 hs2)))
 have HW:=Lh (aI hW1 hW2)
 have d0:W2.cell? ⟨w.heap.size,0,none⟩=some (.slice x.slots.a s.slots.length x.slots.cap):=cH g1 rfl
 have d1:W2.cell? ⟨w.heap.size,1,none⟩=some (.slice x.rooms.a s.rooms.length x.rooms.cap):=cH g1 rfl
 have d2:W2.cell? ⟨w.heap.size,2,none⟩=some (.slice x.people.a s.people.length x.people.cap):=cH g1 rfl
 have d3:W2.cell? ⟨w.heap.size,3,none⟩=some (.slice x.groups.a s.groups.length x.groups.cap):=cH g1 rfl
 have d4:W2.cell? ⟨w.heap.size,4,none⟩=some (.slice x.lessons.a s.lessons.length x.lessons.cap):=cH g1 rfl
 have c0:W2.cell? ⟨w.heap.size+1,0,none⟩=some (.int .i64 rule):=cH g2 rfl
 have c1:W2.cell? ⟨w.heap.size+1,1,none⟩=some (.slice y.b.a bi.length y.b.cap):=cH g2 rfl
 have c2:W2.cell? ⟨w.heap.size+1,2,none⟩=some (.int .i64 y.k0):=cH g2 rfl
 have c3:W2.cell? ⟨w.heap.size+1,3,none⟩=some (.int .i64 y.k1):=cH g2 rfl
 have c4:W2.cell? ⟨w.heap.size+1,4,none⟩=some (.int .i64 y.k2):=cH g2 rfl
 have c5:W2.cell? ⟨w.heap.size+1,5,none⟩=some (.slice y.a y.n y.cap):=cH g2 rfl
 clear hs hf hz hy hg hok hfr g1 g2 hW1 hW2 hs1 hs2 hb2 hI
 go_enter Tryz.func24,Tryz.ntmps24
 go_upto_region 1 with fail
 rw [<- HW.out.1,<- HW.out.2]
 go_wp2_with fail
 refine HEL.out.mono ?_
 rintro e w3 ⟨v,rfl,hv,hb3⟩
 have H3:=Lh (aI hv (aI (HK.out.1.trans (hb3.mono HK.out.1.size)) (aI hb3.size ((hb3.block _ (gS HK.out.2.2.1).1).trans HK.out.2.2.1))))
 clear d0 d1 d2 d3 d4 c0 c1 c2 c3 c4 c5 hv hb3 HEL
 rcases HCS.out with ⟨hE,hR⟩ | ⟨k,hk,ns,hrk,hE,hnl,hn64,hR⟩
 ·subst hE
  have HR:=Lh hR
  obtain ⟨xv,hv1,_⟩:=H3.out.1
  subst hv1
  clear hR HCS
  go_wp2_with fail
  go_ret2
  exact SenP.mk' HR.out H3.out.2.1
 subst hE
 have hrk:rule=(k:Int):=hrk
 subst hrk
 try simp only at H3
 try simp only
 obtain ⟨xv,hv1,hv2⟩:=H3.out.1
 subst hv1
 obtain ⟨yr,hyr,hyc⟩:=HZ.out.rul k hk
 obtain ⟨hza,hzb⟩:=HZ.out.at_ (by rw [List.length_map];omega)
 have HVR:=Lh (HV.out _ (List.getElem_mem hk))
 have HFB:=Lh (HFR.out _ (List.getElem_mem hk)).body
 have HYR:=Lh hyr
 have hyc3:=hyc.agree (agree_of_below H3.out.2.1) hzb
 have HR:=Lh hR
 have HNL:=Lh hnl
 have HN64:=Lh hn64
 have i1:(0:Int)<=(k:Int):=by omega
 have i2:(k:Int)<(l.length:Int):=by omega
 clear HCS hyr hyc hzb hR hnl hn64 HV HFR HZ
 rw [hza]
 clear hza
 generalize l[k]=re at HVR HFB HYR hyc3 HR HNL
 clear hk
 obtain ⟨rn,hard,weight,each,⟨kind,fname,n,terms,binds,fl⟩⟩:=re
 obtain ⟨yee,yeb⟩:=yr
 simp only [RulA.cells,FrmA.cells,SlA.val,Frm.kind,Frm.name,Frm.n,Frm.terms,Frm.binds,Frm.l] at hyc3 HNL HR HFB
 obtain ⟨e0,e1,e2,e3,e4,e5,e6,e7,e8,e9⟩:=hyc3.ten
 have c0:w3.cell? ⟨w.heap.size+1,0,none⟩=some (.int .i64 (k:Int)):=cH H3.out.2.2.2 rfl
 clear hyc3
 have hmm := @run_makeMap Tryz.prog
 obtain ⟨m,hm⟩:∃ m,m=(each.map Bnd.name).zip ns:=⟨_,rfl⟩
 rw [<- hm] at HR
 have HM:=Lh hm
 clear hm
 obtain ⟨W4,hW4⟩:∃ W4,W4=w3.alloc (.cells #[.string ⟨rn.toArray⟩,.bool hard,.int .i64 weight,.slice yee.a each.length yee.cap,.int .i64 kind,.string ⟨fname.toArray⟩,.int .i64 n,.slice yeb.t.a terms.length yeb.t.cap,.slice yeb.b.a binds.length yeb.b.cap,.slice yeb.l.a fl.length yeb.l.cap] 66):=⟨_,rfl⟩
 obtain ⟨W5,hW5⟩:∃ W5,W5=W4.alloc (.map #[] 0):=⟨_,rfl⟩
 obtain ⟨W6,hW6⟩:∃ W6,W6=W5.alloc (.cells #[.map (some W4.heap.size)] 103):=⟨_,rfl⟩
 have hs4:W4.heap.size=w3.heap.size+1:=by rw [hW4];simp
 have hs5:W5.heap.size=w3.heap.size+2:=by rw [hW5];simp [hs4]
 have hs6:W6.heap.size=w3.heap.size+3:=by rw [hW6];simp [hs5]
 have hb6:Below w3.heap.size w3 W6:=by rw [hW6,hW5,hW4];exact (((Below.refl _ _).alloc (Nat.le_refl _) _).alloc (by simp) _).alloc (by simp;omega) _
 obtain ⟨BR,hBR⟩:∃ BR,BR=w3.heap.size:=⟨_,rfl⟩
 obtain ⟨MB,hMB⟩:∃ MB,MB=w3.heap.size+1:=⟨_,rfl⟩
 obtain ⟨MV,hMV⟩:∃ MV,MV=W4.heap.size+1:=⟨_,rfl⟩
 have k4:W6.heap[BR]?=some (.cells #[.string ⟨rn.toArray⟩,.bool hard,.int .i64 weight,.slice yee.a each.length yee.cap,.int .i64 kind,.string ⟨fname.toArray⟩,.int .i64 n,.slice yeb.t.a terms.length yeb.t.cap,.slice yeb.b.a binds.length yeb.b.cap,.slice yeb.l.a fl.length yeb.l.cap] 66 (0,0)):=by rw [hBR,hW6,heap_get,if_neg (by omega),hW5,heap_get,if_neg (by omega),hW4,heap_get,if_pos rfl]
 have k5:TxtAt W6 MB []:=by unfold TxtAt;rw [hMB,hW6,heap_get,if_neg (by omega),hW5,heap_get,if_pos (by omega)];rfl
 have k6:W6.heap[MV]?=some (.cells #[.map (some MB)] 103 (0,0)):=by rw [hMV,hW6,heap_get,if_pos (by omega),hs4,hMB]
 have H6:=Lh (aI (show BR+1=MB/\BR+2=MV/\W6.heap.size=BR+3/\w.heap.size<=BR by have:=H3.out.2.1.size;omega) (aI k4 (aI k5 (aI k6 (aI (H3.out.2.1.trans (hb6.mono H3.out.2.1.size)) (hv2.later hb6 hb6.size))))))
 have HW6:=Lh (aI hW4 (aI hW5 hW6))
 have HLE:=Lh (aI hBR hMV)
 have H3sl:=Lh (fun (W:World) (hb:Below w3.heap.size w3 W)=>hv2.later hb hb.size)
 have HXL:=Lh (fun (h:0<ns.length)=>hv2.at_ (by rw [List.length_map];exact h))
 have H36:=Lh hb6
 clear hv2 hs4 hs5 hs6 hb6 k4 k5 k6 hW4 hW5 hW6 hBR hMB hMV
 go_upto_region 5 with fail
 clear i1 i2 c0 e0 e1 e2 e3 e4 e5 e6 e7 e8 e9
 rw [<- HW6.out.1,<- HLE.out.1]
 go_upto_region 6 with fail
 rw [<- HW6.out.2.1,<- HW6.out.2.2,<- HLE.out.2]
 have q3:W6.cell? ⟨BR,3,none⟩=some (.slice yee.a each.length yee.cap):=cH H6.out.2.1 rfl
 have HL1:Hid (∀ W,Chalk.Mod (fun k=>k=MB) W6 W->W.heap[BR]?=some (.cells #[.string ⟨rn.toArray⟩,.bool hard,.int .i64 weight,.slice yee.a each.length yee.cap,.int .i64 kind,.string ⟨fname.toArray⟩,.int .i64 n,.slice yeb.t.a terms.length yeb.t.cap,.slice yeb.b.a binds.length yeb.b.cap,.slice yeb.l.a fl.length yeb.l.cap] 66 (0,0))/\W.heap[MV]?=some (.cells #[.map (some MB)] 103 (0,0))/\Below w.heap.size w W/\SlIn W (·<W.heap.size) (ns.map dstr) xv):=Lh (fun W hM=>by
  have h6:=H6.out.1
  have hbW:Below w3.heap.size W6 W:=hM.below (by have:=HLE.out.1;omega) (fun k hk=>by have:=HLE.out.1;omega)
  have hbW2:Below w.heap.size W6 W:=hM.below (by omega) (fun k hk=>by omega)
  exact ⟨heap_kept H6.out.2.1 hM (by omega),heap_kept H6.out.2.2.2.1 hM (by omega),H6.out.2.2.2.2.1.trans hbW2,(H3sl.out W (H36.out.trans hbW))⟩)
 obtain ⟨i0,hi,hz0,hz1,hz2⟩:=info_parts infoStr
 have hel6:each.length<=6:=HVR.out.each
 go_wp2_with fail
 clear q3
 go_loopw [12,37] (fun pv i wr=>∃ j:Nat,j<=each.length/\i=.int .i64 j/\Hid (Chalk.Mod (fun k=>k=MB) W6 wr)/\Hid (TxtAt wr MB (m.take j))/\Hid (OwnN wr W6.heap.size (fun _=>False) 9 1 pv ((m.take j).map (fun p=>dstr (pairTxt p))))) (fun _ i _=>each.length - (intOf i).toNat)
 case atStart=>exact ⟨0,Nat.zero_le _,rfl,Lh (Chalk.Mod.refl _ _),Lh H6.out.2.2.1,Lh (OwnN.nil _ _ _ _ _ (fun _ h=>h.elim))⟩
 case round =>
  obtain ⟨j,hj,rfl,HMD,HTX,HO⟩:=hrel
  obtain ⟨kR,kV,hbw,hns⟩:=HL1.out wr HMD.out
  obtain ⟨oa,ocap,ho⟩:=HO.out.form
  subst ho
  have hlen:((m.take j).map (fun p=>dstr (pairTxt p))).length=j:=by rw [List.length_map,List.length_take,HM.out];simp [HNL.out];omega
  rw [hlen] at HO ⊢
  have HLN:=Lh hlen
  clear hlen
  by_cases hlt:j<each.length
  ·have hq:j<ns.length:=by rw [HNL.out];exact hlt
   have hye:SlIn wr (·<wr.heap.size) (each.map Bnd.toD) yee:=HYR.out.each.later hbw hbw.size
   obtain ⟨g1,_,_,g4,_⟩:=hye.flat Bnd.flatT
   obtain ⟨hea,heb⟩:=g1 (by omega)
   obtain ⟨b0,b1⟩:=g4.two j hlt rfl
   obtain ⟨n1,_,_,n4,_⟩:=hns.flat dstr_flat
   obtain ⟨hna,hnb⟩:=n1 (by omega)
   have n0:=n4.one j hq rfl
   rw [Nat.mul_one] at n0
   obtain ⟨Wt,hWt⟩:∃ Wt,Wt=wr.alloc (.cells #[.string ⟨each[j].name.toArray⟩,.int .i64 each[j].sort] 94):=⟨_,rfl⟩
   have hbt:Below wr.heap.size wr Wt:=by rw [hWt];exact (Below.refl _ _).alloc (Nat.le_refl _) _
   have kt:Wt.heap[wr.heap.size]?=some (.cells #[.string ⟨each[j].name.toArray⟩,.int .i64 each[j].sort] 94 (0,0)):=by rw [hWt,heap_get,if_pos rfl]
   have hst:Wt.heap.size=wr.heap.size+1:=by rw [hWt];simp
   have hTt:TxtAt Wt MB (m.take j):=HTX.out.below hbt (gS HTX.out).1
   have kVt:=(hbt.block _ (gS kV).1).trans kV
   have n0t:=(hbt.cell (p:=⟨xv.b,xv.o+j,none⟩) hnb).trans n0
   have hMBl:MB<wr.heap.size:=(gS HTX.out).1
   have HC:Hid (∀ W,Below Wt.heap.size Wt W->W.cell? ⟨MV,0,none⟩=some (.map (some MB))/\W.cell? ⟨wr.heap.size,0,none⟩=some (.string ⟨each[j].name.toArray⟩)/\W.cell? ⟨xv.b,xv.o+j,none⟩=some (.string ⟨ns[j].toArray⟩)):=Lh (fun W hW=>by
    have k1:=(hW.block _ (gS kVt).1).trans kVt
    have k2:=(hW.block _ (gS kt).1).trans kt
    exact ⟨cH k1 rfl,cH k2 rfl,(hW.cell (World.block_lt_of_cell? Wt _ n0t)).trans n0t⟩)
   have hnone:txtGet (m.take j) each[j].name=none:=by
    unfold txtGet
    rw [List.find?_eq_none.2 (fun p hp=>by have:=take_none HVR.out.nodup HNL.out hlt p (by rw [<- HM.out];exact hp);simpa using this)];rfl
   have hput:=txt_put (P:=Tryz.prog) Wt.drew 103 _ _ MB (m.take j) each[j].name ns[j] Tryz.underlying103 Tryz.underlying9 hTt hnone
   obtain ⟨OB,hOB⟩:∃ OB,OB=Obj.map (txtEs 0 (m.take j++[(each[j].name,ns[j])])).toArray (m.take j++[(each[j].name,ns[j])]).length:=⟨_,rfl⟩
   rw [<- hOB] at hput
   obtain ⟨W8,hW8⟩:∃ W8,W8=Wt.drew.putObj MB OB:=⟨_,rfl⟩
   have hM8:Chalk.Mod (fun k=>k=MB) Wt W8:=by rw [hW8];exact (Chalk.Mod.refl (fun k=>k=MB) Wt).drew.trans (Chalk.Mod.putObj _ _ _) (fun k _ hk=>hk)
   have hs8:W8.heap.size=wr.heap.size+1:=by rw [hW8];simp [hst]
   have hT8:TxtAt W8 MB (m.take j++[(each[j].name,ns[j])]):=by rw [hW8,hOB];exact txtAt_put (by show MB<Wt.heap.size;omega)
   have htk:m.take (j+1)=m.take j++[(each[j].name,ns[j])]:=by rw [HM.out];exact zip_get hlt hq
   obtain ⟨r,hr1,hr2⟩:=HO.out
   have hrl:∀ k,r=some k->k<wr.heap.size:=fun k hk=>hr1.row_lt hk
   have HO8:=Lh (aI ((hr1.kept (Chalk.Mod.of_below (S:=fun _=>False) hbt) (fun _ h=>h.elim) (fun _ _ h=>h)).kept hM8 (fun _ h=>h.elim) (fun k hk e=>by have:=hr2 k hk;have h4:=H6.out.1;omega)) (aI hr2 hrl))
   have HC8:Hid (∀ W,Chalk.Mod (fun k=>r=some k) W8 W->W.cell? ⟨wr.heap.size,0,none⟩=some (.string ⟨each[j].name.toArray⟩)/\W.cell? ⟨xv.b,xv.o+j,none⟩=some (.string ⟨ns[j].toArray⟩)):=Lh (fun W hW=>by
    have kt8:=heap_kept kt hM8 (by omega)
    have k2:=heap_kept kt8 hW (fun e=>by have:=hrl _ e;omega)
    have hnb2:xv.b ≠ MB:=by have h1:=(HXL.out (by omega)).2;have h2:=H6.out.1;have h3:=HLE.out.1;omega
    have n8:W8.cell? ⟨xv.b,xv.o+j,none⟩=some (.string ⟨ns[j].toArray⟩):=(cell_agree (F:=fun k=>k=xv.b) (fun k hk=>hk ▸ hM8.block xv.b (by omega) hnb2) (a:=⟨xv.b,xv.o+j,none⟩) rfl).trans n0t
    exact ⟨cH k2 rfl,(cell_agree (F:=fun k=>k=xv.b) (fun k hk=>hk ▸ hW.block xv.b (by omega) (fun e=>by have h1:=hr2 _ e;have h2:=(HXL.out (by omega)).2;have h3:=H6.out.1;have h4:=HLE.out.1;omega)) (a:=⟨xv.b,xv.o+j,none⟩) rfl).trans n8⟩)
   have HEN:=Lh (HVR.out.enames _ (List.getElem_mem hlt))
   have HNN:=Lh (HN64.out _ (List.getElem_mem hq))
   have HT8:=Lh (aI hT8 (aI hs8 htk))
   have HM8:=Lh ((HMD.out.trans (Chalk.Mod.of_below (S:=fun _=>False) hbt) (fun _ _ h=>h.elim)).trans hM8 (fun k _ hk=>hk))
   have HSZ8:=Lh (aI HMD.out.size (aI hs8 hMBl))
   have HWT:=Lh hWt
   have HW8:=Lh hW8
   have hj2:(j:Int)<(ns.length:Int):=by omega
   have hj3:(j:Int)<(each.length:Int):=by omega
   rw [hea,hna]
   have hj4:=True.intro
   clear hj4 kR kV hbw hns hye hea heb g1 g4 n1 n4 n0 hnb hna hWt hbt kt hst hTt kVt n0t hMBl hnone hr1 hr2 hrl hW8 hM8 hs8 hT8 htk hOB
   generalize hnj:ns[j]=nj at HC hput HC8 HNN HT8
   generalize each[j]=bj at b0 b1 HC hput HC8 HEN HT8 HWT
   clear hnj
   obtain ⟨bn,bs⟩:=bj
   simp only at b0 b1 HC hput HC8 HEN HT8 HWT
   go_upto_region 10 with fail
   rw [<- HWT.out]
   clear b0 b1
   refine wp_region_U 7 (S:=fun W=>Below Wt.heap.size Wt W) (by kernel_rfl) (Below.refl _ _).drew (fun hHeld=>?_)
   refine tkH (i:=0) rfl hHeld HC ?_
   refine tkH (i:=1) rfl hHeld HC ?_
   refine tkH (i:=2) rfl hHeld HC ?_
   refine tkH (i:=3) rfl hHeld HC ?_
   refine tkH (i:=4) rfl hHeld HC ?_
   refine tkH (i:=5) rfl hHeld HC ?_
   refine tkH (i:=6) rfl hHeld HC ?_
   refine ready_U (rs:=[7]) (by kernel_rfl) (by simp) ?_
   refine cons_V rfl (by kernel_rfl) (fun K hK=>?_) nil_U
   go_simp
   refine hK.out _ _ ?_
   clear hK K hHeld hput
   try simp only [Act.put,ub1,ub2,ub3]
   refine done_U (by kernel_rfl) ?_ _
   go_upto_region 11 with fail
   rw [<- HW8.out]
   obtain ⟨s1,hs1⟩:∃ s1,s1=bn++[32,61,32]:=⟨_,rfl⟩
   have hl1:s1.length<=67:=by rw [hs1];have:=HEN.out;simp;omega
   obtain ⟨s2,hs2⟩:∃ s2,s2=s1++nj:=⟨_,rfl⟩
   have HS2:=Lh (show s2=pairTxt (bn,nj) by rw [hs2,hs1];simp [pairTxt])
   have HS2L:=Lh (show s2.length<=131 by rw [hs2,List.length_append];have:=HNN.out;omega)
   have ha1:∀ W,(Op.stringOp .add ⟨bn.toArray⟩ ⟨#[32,61,32]⟩).run Tryz.prog W=.ok (.string ⟨s1.toArray⟩) W:=fun W=>by rw [hs1];exact run_string_add_lists W bn [32,61,32] (by have:=HEN.out;omega) (by simp)
   have ha2:∀ W,(Op.stringOp .add ⟨s1.toArray⟩ ⟨nj.toArray⟩).run Tryz.prog W=.ok (.string ⟨s2.toArray⟩) W:=fun W=>by rw [hs2];exact run_string_add_lists W s1 nj (by omega) (by have:=HNN.out;omega)
   clear hs1 hs2 hl1
   refine wp_region_U 11 (S:=fun W=>Chalk.Mod (fun k=>r=some k) W8 W) (by kernel_rfl) (Chalk.Mod.refl _ _).drew (fun hHeld=>?_)
   refine tkH (i:=0) rfl hHeld HC8 ?_
   refine tkH (i:=1) rfl hHeld HC8 ?_
   refine tkH (i:=2) rfl hHeld HC8 ?_
   refine tkH (i:=3) rfl hHeld HC8 ?_
   refine tkH (i:=4) rfl hHeld HC8 ?_
   refine tkH (i:=5) rfl hHeld HC8 ?_
   refine tkH (i:=6) rfl hHeld HC8 ?_
   refine tkH (i:=7) rfl hHeld HC8 ?_
   refine tkH (i:=8) rfl hHeld HC8 ?_
   refine ready_U (rs:=[9]) (by kernel_rfl) (by simp) ?_
   refine cons_U rfl (fun K hK=>?_) nil_U
   go_simp
   refine hK.out _ _ (hHeld.alloc _) fun hHeld=>?_
   clear hK K
   try simp only [Act.put,ub1,ub2,ub3]
   obtain ⟨B,hB⟩:∃ B,B=W8.heap.size:=⟨_,rfl⟩
   rw [<- hB]
   have hlit:Chalk.Own ((W8.alloc (.cells #[.string ⟨s2.toArray⟩] 9)).drew) (fun _=>False) 9 1 (.slice (some ⟨B,0,none⟩) 1 1) (some B) [dstr s2]:=by rw [hB];exact (Chalk.Own.lit (w:=W8) (n:=1) (cs:=[.string ⟨s2.toArray⟩]) rfl (by unfold maxLen;omega) rfl (dstr_at (by have:=HS2L.out;unfold maxLen;omega)) (fun _ h=>h.elim)).kept (Chalk.Mod.refl (fun _=>False) _).drew (fun _ h=>h.elim) (fun _ _ h=>h)
   have hso:Chalk.Own ((W8.alloc (.cells #[.string ⟨s2.toArray⟩] 9)).drew) (fun _=>False) 9 1 (.slice oa j ocap) r ((m.take j).map (fun p=>dstr (pairTxt p))):=HO8.out.1.kept ((Chalk.Mod.refl (fun _=>False) W8).alloc _).drew (fun _ h=>h.elim) (fun _ _ h=>h)
   have hs9:(W8.alloc (.cells #[.string ⟨s2.toArray⟩] 9)).drew.heap.size=B+1:=by rw [hB];simp
   generalize (W8.alloc (.cells #[.string ⟨s2.toArray⟩] 9)).drew=W9 at hHeld hlit hso hs9 ⊢
   have hsr:=hlit.read (G:=fun k=>k=B) (fun _ h=>h.elim) (fun k hk=>(Option.some.inj hk).symm) rfl
   have hsw:=hso.widen (G:=fun k=>k=B) (fun _ h=>h.elim) (fun k hk e=>by have h1:=HO8.out.2.2 k hk;have h2:=HSZ8.out;omega) (fun k hk=>by omega)
   have HS9:=Lh (aI hsr (aI hsw (aI hB hs9)))
   clear hlit hso hsr hsw hB hs9
   refine ready_U (rs:=[10]) (by kernel_rfl) (by simp) ?_
   refine cons_U rfl (fun K hK=>?_) nil_U
   refine step_append_src _ rfl _ _ 47 rfl 9 i0 _ 1 16 Tryz.underlying47 hi hz0 hz1 hz2 rfl (by decide) (.slice oa j ocap) (.slice (some ⟨B,0,none⟩) 1 1) (fun k=>k=B) r ((m.take j).map (fun p=>dstr (pairTxt p))) [dstr s2] rfl rfl HS9.out.2.1 HS9.out.1 rfl (by rw [HLN.out];simp;unfold maxLen;omega) (by rw [HLN.out];simp;omega) ?_
   intro ao cap r' w10 hown hmod hat
   rw [HLN.out] at hown ⊢
   have HOW:=Lh (aI hown (aI hat (aI hHeld hmod)))
   clear hown hat hmod
   simp only [List.length_cons,List.length_nil,Nat.zero_add]
   refine hK.out _ _ (HOW.out.2.2.1.trans HOW.out.2.2.2 (fun _ _ h=>h)) fun hHeld=>?_
   clear hK K
   try simp only [Act.put,ub1,ub2,ub3]
   refine ready_U (rs:=[11]) (by kernel_rfl) (by simp) ?_
   refine cons_V rfl (by kernel_rfl) (fun K hK=>?_) nil_U
   go_simp
   refine hK.out _ _ ?_
   clear hK K
   try simp only [Act.put,ub1,ub2,ub3]
   refine done_U (by kernel_rfl) ?_ _
   have HH:=Lh hHeld
   clear hHeld
   go_wp2_with fail
   have hlo:=H6.out.1
   have h8:=HSZ8.out
   have hBr:∀ k,r=some k->W6.heap.size<=k/\k<wr.heap.size:=fun k hk=>⟨HO8.out.2.1 k hk,HO8.out.2.2 k hk⟩
   refine ⟨⟨j+1,by omega,by go_num,Lh (HM8.out.trans HH.out (fun k hk e=>by have:=hBr k e;omega)),Lh ?_,Lh ?_⟩,by simp [intOf];omega⟩
   ·rw [HT8.out.2.2];exact heap_kept HT8.out.1 HH.out (fun e=>by have:=hBr _ e;omega)
   ·rw [HT8.out.2.2,List.map_append,List.map_cons,List.map_nil,<- HS2.out]
    refine ⟨r',HOW.out.1.flat (by rw [flats_append,flats_pairs];rfl) (fun _ _ h=>h) (fun _ h=>h.elim),fun k hk=>?_⟩
    rcases HOW.out.2.1 with h | h
    ·exact (hBr k (by rw [<- h];exact hk)).1
    ·rw [h] at hk;have:=Option.some.inj hk;have h9:=HS9.out.2.2;omega
  ·have hjl:j=each.length:=by omega
   subst hjl
   have hml:m.length=each.length:=by rw [HM.out];simp [HNL.out]
   have hta:m.take each.length=m:=List.take_of_length_le (by omega)
   rw [hta] at HTX HO
   clear hta hlt hj
   obtain ⟨w8,rfl⟩:∃ w8,w8=wr:=⟨wr,rfl⟩
   obtain ⟨W9,hW9⟩:∃ W9,W9=w8.alloc (.cells #[.nilFunc] 104):=⟨_,rfl⟩
   obtain ⟨W10,hW10⟩:∃ W10,W10=W9.setCell ⟨w8.heap.size,0,none⟩ (.func (.func 44) #[] #[.pointer (some ⟨MV,0,none⟩),.pointer (some ⟨w8.heap.size,0,none⟩)]):=⟨_,rfl⟩
   have hb9:Below w8.heap.size w8 W9:=by rw [hW9];exact (Below.refl _ _).alloc (Nat.le_refl _) _
   have k9:W9.heap[w8.heap.size]?=some (.cells #[.nilFunc] 104 (0,0)):=by rw [hW9,heap_get,if_pos rfl]
   have hb10:Below w8.heap.size w8 W10:=by rw [hW10];exact hb9.setCell (p:=⟨w8.heap.size,0,none⟩) (Nat.le_refl _) _
   have k10:W10.heap[w8.heap.size]?=some (.cells #[.func (.func 44) #[] #[.pointer (some ⟨MV,0,none⟩),.pointer (some ⟨w8.heap.size,0,none⟩)]] 104 (0,0)):=by rw [hW10,box_store _ k9];rfl
   have kR10:=(hb10.block _ (gS kR).1).trans kR
   have kV10:=(hb10.block _ (gS kV).1).trans kV
   have hT10:TxtAt W10 MB m:=HTX.out.below hb10 (gS HTX.out).1
   have hE10:PutE W10 MV w8.heap.size m:=⟨⟨MB,cH kV10 rfl,hT10⟩,cH k10 rfl⟩
   have hbw10:=hbw.trans (hb10.mono hbw.size)
   have hnd:(m.map Prod.fst).Nodup:=by rw [HM.out,zip_fst HNL.out];exact HVR.out.nodup
   have hm64:∀ p∈m,p.1.length<=64/\p.2.length<=64:=by rw [HM.out];exact zip_mem HVR.out.enames HN64.out
   have HPUT:=Lh (put7_any m m MV w8.heap.size (txtGet_last hnd) (fun p hp=>by have:=(hm64 p hp).2;omega) _ (.mk kind fname n terms binds fl) (Nat.le_refl _) HFB.out yeb W10 (·<w.heap.size) (FrmIn.agree HYR.out.body (agree_of_below hbw10)) (fun k hk=>Nat.lt_of_lt_of_le hk hbw10.size) hE10)
   have HRN:=Lh (HFB.out.ren (fun p hp=>(hm64 p hp).2))
   have HPL:=Lh (pairsTxt_len m hm64)
   have H10:=Lh (aI hbw10 (aI kR10 (aI hb10 (HO.out.below hb10))))
   have hJ:=join_pairs m
   have HJ:=Lh hJ
   have HST:=Lh (synText_len (f:=renF m (.mk kind fname n terms binds fl)))
   have HML:=Lh hml
   have HW9:=Lh (aI hW9 hW10)
   have hent:∀ args w,(callFunc 44 args).run Tryz.prog w=.ok (.enter 44 args) w:=enters_of Tryz.func44 (by kernel_rfl) rfl
   have hmf:∀ (fn:Fn) (first cap:Array Value) (w:World),(Instr.makeFunc fn first cap).run Tryz.prog w=.ok (.func fn first cap) w:=fun _ _ _ _=>rfl
   have r4:W10.cell? ⟨BR,4,none⟩=some (.int .i64 kind):=cH kR10 rfl
   have r5:W10.cell? ⟨BR,5,none⟩=some (.string ⟨fname.toArray⟩):=cH kR10 rfl
   have r6:W10.cell? ⟨BR,6,none⟩=some (.int .i64 n):=cH kR10 rfl
   have r7:W10.cell? ⟨BR,7,none⟩=some (.slice yeb.t.a terms.length yeb.t.cap):=cH kR10 rfl
   have r8:W10.cell? ⟨BR,8,none⟩=some (.slice yeb.b.a binds.length yeb.b.cap):=cH kR10 rfl
   have r9:W10.cell? ⟨BR,9,none⟩=some (.slice yeb.l.a fl.length yeb.l.cap):=cH kR10 rfl
   have rq:W10.cell? ⟨w8.heap.size,0,none⟩=some (.func (.func 44) #[] #[.pointer (some ⟨MV,0,none⟩),.pointer (some ⟨w8.heap.size,0,none⟩)]):=cH k10 rfl
   have rf9:W9.frozen? ⟨w8.heap.size,0,none⟩=false:=fH k9
   have rc9:W9.cell? ⟨w8.heap.size,0,none⟩=some .nilFunc:=cH k9 rfl
   simp only [FrmA.cells,SlA.val,Frm.kind,Frm.name,Frm.n,Frm.terms,Frm.binds,Frm.l] at HPUT
   clear kR kV hbw hns hb9 k9 hb10 k10 kR10 kV10 hT10 hE10 hbw10 hnd hm64 hW9 hW10 hml hJ hi hz0 hz1 hz2 HTX HO
   go_upto_region 14 with fail
   rw [<- HW9.out.1]
   go_upto_region 15 with fail
   rw [<- HW9.out.2]
   clear rf9 rc9
   go_wp2_with fail
   refine HPUT.out.mono ?_
   rintro e w11 ⟨y',rfl,hy',hb11⟩
   have H11:=Lh (aI (hy'.mono (G:=(·<w11.heap.size)) (fun k hk=>by rcases hk with h | h;have h1:=H10.out.1.size;have h2:=hb11.size;omega;exact h.2)) (aI (H10.out.1.trans (hb11.mono H10.out.1.size)) (aI ((hb11.block _ (gS H10.out.2.1).1).trans H10.out.2.1) (H10.out.2.2.2.below hb11))))
   clear hy' hb11 HPUT
   clear r4
   clear r5
   clear r6
   clear r7
   clear r8
   clear r9
   clear rq
   obtain ⟨FR,hFR⟩:∃ FR,FR=renF m (.mk kind fname n terms binds fl):=⟨_,rfl⟩
   rw [<- hFR] at H11 HRN HR HST ⊢
   clear hFR
   have HTX2:=Lh (stext_any FR y' w11 H11.out.1 HRN.out (HGS.out.below H11.out.2.1))
   obtain ⟨rk,rn2,rm,rt,rb,rl⟩:=FR
   obtain ⟨yt',yb',yl'⟩:=y'
   simp only [FrmA.cells,SlA.val,Frm.kind,Frm.name,Frm.n,Frm.terms,Frm.binds,Frm.l] at HTX2 ⊢
   go_wp2_with fail
   refine HTX2.out.mono ?_
   rintro e w12 ⟨v,rfl,hv,hb12⟩
   have kR12:=(hb12.block _ (gS H11.out.2.2.1).1).trans H11.out.2.2.1
   have H12:=Lh (aI hv (aI (H11.out.2.1.trans (hb12.mono H11.out.2.1.size)) (H11.out.2.2.2.below hb12)))
   obtain ⟨ST,hST⟩:∃ ST,ST=synText (.mk rk rn2 rm rt rb rl):=⟨_,rfl⟩
   rw [<- hST] at H12 HR HST ⊢
   clear hv hb12 hST HTX2
   obtain ⟨tx,er⟩:=ST
   simp only at H12 HR HST ⊢
   by_cases her:er=0
   rotate_left
   ·have her2:(er==0)=false:=by simpa using her
    have HRE:=Lh (HR.out.trans (if_pos her))
    clear kR12
    go_wp2_with fail
    go_ret2
    exact SenP.mk' HRE.out H12.out.2.1
   subst her
   have HRE:=Lh (HR.out.trans (if_neg (by decide)))
   have v0:w12.cell? ⟨BR,0,none⟩=some (.string ⟨rn.toArray⟩):=cH kR12 rfl
   have HNM:=Lh HVR.out.name
   have hel6:each.length<=6:=HVR.out.each
   clear kR12 HR
   simp only at HNM
   by_cases h0:each.length=0
   ·have hm0:m=[]:=List.length_eq_zero_iff.1 (HML.out.trans h0)
    have HRF:Hid (R=((rn++[58,32])++tx,0)):=Lh (by rw [HRE.out,hm0];simp [sentHead])
    obtain ⟨t1,ht1⟩:∃ t1,t1=rn++[58,32]:=⟨_,rfl⟩
    obtain ⟨t2,ht2⟩:∃ t2,t2=t1++tx:=⟨_,rfl⟩
    rw [<- ht1,<- ht2] at HRF
    have ha1:∀ W,(Op.stringOp .add ⟨rn.toArray⟩ ⟨#[58,32]⟩).run Tryz.prog W=.ok (.string ⟨t1.toArray⟩) W:=fun W=>by rw [ht1];exact run_string_add_lists W rn [58,32] (by have:=HNM.out;omega) (by simp)
    have ha2:∀ W,(Op.stringOp .add ⟨t1.toArray⟩ ⟨tx.toArray⟩).run Tryz.prog W=.ok (.string ⟨t2.toArray⟩) W:=fun W=>by rw [ht2];exact run_string_add_lists W t1 tx (by rw [ht1];have:=HNM.out;simp;omega) (by have:=HST.out;omega)
    have hcv:=bytes7_text H12.out.1
    have h0':(each.length:Int)=0:=by omega
    clear ht1 ht2 hm0
    rw [h0'] at *
    go_wp2_with fail
    go_ret2
    exact SenP.mk' HRF.out H12.out.2.1
   ·have hpos:0<each.length:=by omega
    have hme:m.isEmpty=false:=by rw [List.isEmpty_eq_false_iff];intro e;have:=HML.out;rw [e] at this;simp at this;omega
    obtain ⟨x0,hx0,hx1⟩:=H12.out.2.2.onto.sl (by rw [show (m.map (fun p=>dstr (pairTxt p)))=(m.map pairTxt).map dstr by rw [List.map_map];rfl,widths_map dstr_flat];simp)
    rw [show (m.map (fun p=>dstr (pairTxt p)))=(m.map pairTxt).map dstr by rw [List.map_map];rfl] at hx0 hx1
    rw [SlA.val,List.length_map,List.length_map,HML.out] at hx0
    have hJO:=join7_any (m.map pairTxt) x0 w12 hx1 (by rw [List.length_map,HML.out];omega) (by rw [HJ.out];have h1:=HPL.out;have h2:=HML.out;omega)
    rw [HJ.out,List.length_map,HML.out,<- hx0] at hJO
    have HJO:=Lh hJO
    have HPX:=Lh (show (pairsTxt m).length<=1000 by have h1:=HPL.out;have h2:=HML.out;omega)
    have HRF:Hid (R=(((rn++(([32,40]++pairsTxt m)++[41]))++[58,32])++tx,0)):=Lh (by rw [HRE.out,sentHead,hme];simp)
    clear hx0 hx1 hJO hme
    generalize pairsTxt m=pt at HJO HPX HRF
    obtain ⟨u1,hu1⟩:∃ u1,u1=[32,40]++pt:=⟨_,rfl⟩
    obtain ⟨u2,hu2⟩:∃ u2,u2=u1++[41]:=⟨_,rfl⟩
    obtain ⟨u3,hu3⟩:∃ u3,u3=rn++u2:=⟨_,rfl⟩
    obtain ⟨t1,ht1⟩:∃ t1,t1=u3++[58,32]:=⟨_,rfl⟩
    obtain ⟨t2,ht2⟩:∃ t2,t2=t1++tx:=⟨_,rfl⟩
    rw [<- hu1,<- hu2,<- hu3,<- ht1,<- ht2] at HRF
    have hl1:u1.length<=1002:=by rw [hu1];have:=HPX.out;simp;omega
    have hl2:u2.length<=1003:=by rw [hu2];simp;omega
    have hl3:u3.length<=1067:=by rw [hu3];have:=HNM.out;simp;omega
    have hl4:t1.length<=1069:=by rw [ht1];simp;omega
    have ha0:∀ W,(Op.stringOp .add ⟨#[32,40]⟩ ⟨pt.toArray⟩).run Tryz.prog W=.ok (.string ⟨u1.toArray⟩) W:=fun W=>by rw [hu1];exact run_string_add_lists W [32,40] pt (by simp) (by have:=HPX.out;omega)
    have hb0:∀ W,(Op.stringOp .add ⟨u1.toArray⟩ ⟨#[41]⟩).run Tryz.prog W=.ok (.string ⟨u2.toArray⟩) W:=fun W=>by rw [hu2];exact run_string_add_lists W u1 [41] (by omega) (by simp)
    have hc0:∀ W,(Op.stringOp .add ⟨rn.toArray⟩ ⟨u2.toArray⟩).run Tryz.prog W=.ok (.string ⟨u3.toArray⟩) W:=fun W=>by rw [hu3];exact run_string_add_lists W rn u2 (by have:=HNM.out;omega) (by omega)
    have ha1:∀ W,(Op.stringOp .add ⟨u3.toArray⟩ ⟨#[58,32]⟩).run Tryz.prog W=.ok (.string ⟨t1.toArray⟩) W:=fun W=>by rw [ht1];exact run_string_add_lists W u3 [58,32] (by omega) (by simp)
    have ha2:∀ W,(Op.stringOp .add ⟨t1.toArray⟩ ⟨tx.toArray⟩).run Tryz.prog W=.ok (.string ⟨t2.toArray⟩) W:=fun W=>by rw [ht2];exact run_string_add_lists W t1 tx (by omega) (by have:=HST.out;omega)
    clear hu1 hu2 hu3 ht1 ht2 hl1 hl2 hl3 hl4 h0
    go_wp2_with fail
    refine HJO.out.mono ?_
    rintro e w13 ⟨rfl,hb13⟩
    have hcv:=bytes7_text (H12.out.1.below hb13)
    have H13:=Lh (H12.out.2.1.trans (hb13.mono H12.out.2.1.size))
    clear hb13 v0
    go_wp2_with fail
    go_ret2
    exact SenP.mk' HRF.out H13.out
end Go.Proofs.YtncnnbmeacpboaaGreatDoor
/- tell.head, tell.Inst. (written by tools/gen_uhead.py) -/
namespace Go.Proofs.YtncnnbmeacpboaaGreatDoor
open Go.RowKit Go.Chalk
attribute [local go_sem] Oper.semAt_some
theorem thead_any (r:Rul) (y:RulA) (w:World) (hg:GS w) (hn:r.name.length<=64) (hw:0<=r.weight/\r.weight<=1000):Calls Tryz.prog 55 #[.agg (y.cells r).toArray] w fun e w'=>e=.returned (.string ⟨(ruleHead r).toArray⟩)/\Below w.heap.size w w':=by
 obtain ⟨W1,hW1⟩:∃ W1,W1=w.alloc (.cells (y.cells r).toArray 66):=⟨_,rfl⟩
 have hb1:Below w.heap.size w W1:=by rw [hW1];exact (Below.refl _ _).alloc (Nat.le_refl _) _
 have g1:W1.heap[w.heap.size]?=some (.cells (y.cells r).toArray 66 (0,0)):=by rw [hW1,heap_get,if_pos rfl]
 have HIT:=Lh (itoa_any r.weight w W1 hg hb1 hw.1 (by omega))
 have HDL:=Lh (decI_len (n:=r.weight) hw.1 (by omega))
 obtain ⟨R,hR⟩:∃ R,R=ruleHead r:=⟨_,rfl⟩
 rw [<- hR]
 have HB:=Lh (aI hb1 g1)
 have HW:=Lh hW1
 have HN:=Lh hn
 simp only [RulA.cells,FrmA.cells,SlA.val] at HW g1 ⊢
 have c1:W1.cell? ⟨w.heap.size,1,none⟩=some (.bool r.hard):=cH g1 rfl
 have c0:W1.cell? ⟨w.heap.size,0,none⟩=some (.string ⟨r.name.toArray⟩):=cH g1 rfl
 have c2:W1.cell? ⟨w.heap.size,2,none⟩=some (.int .i64 r.weight):=cH g1 rfl
 clear hb1 g1 hW1 hg hn hw
 cases hh:r.hard
 ·have HR:Hid (R=(((([115,111,102,116,32]++decI r.weight)++[32])++r.name)++[58])):=Lh (by rw [hR,ruleHead,hh];simp)
  have HHH:=Lh hh
  try rw [hh] at HW
  try rw [hh] at c1
  try rw [hh]
  clear hR hh
  generalize decI r.weight=dw at HIT HDL HR
  generalize r.name=rn at HR HN c0 HW ⊢
  obtain ⟨s1,hs1⟩:∃ s1,s1=[115,111,102,116,32]++dw:=⟨_,rfl⟩
  obtain ⟨s2,hs2⟩:∃ s2,s2=s1++[32]:=⟨_,rfl⟩
  obtain ⟨s3,hs3⟩:∃ s3,s3=s2++rn:=⟨_,rfl⟩
  obtain ⟨s4,hs4⟩:∃ s4,s4=s3++[58]:=⟨_,rfl⟩
  rw [<- hs1,<- hs2,<- hs3,<- hs4] at HR
  have l1:s1.length<=18:=by rw [hs1];have:=HDL.out;simp;omega
  have l2:s2.length<=19:=by rw [hs2];simp;omega
  have l3:s3.length<=83:=by rw [hs3];have:=HN.out;simp;omega
  have as1:∀ W,(Op.stringOp .add ⟨#[115,111,102,116,32]⟩ ⟨dw.toArray⟩).run Tryz.prog W=.ok (.string ⟨s1.toArray⟩) W:=fun W=>by rw [hs1];exact run_string_add_lists W [115,111,102,116,32] dw (by simp) (by have:=HDL.out;omega)
  have as2:∀ W,(Op.stringOp .add ⟨s1.toArray⟩ ⟨#[32]⟩).run Tryz.prog W=.ok (.string ⟨s2.toArray⟩) W:=fun W=>by rw [hs2];exact run_string_add_lists W s1 [32] (by omega) (by simp)
  have as3:∀ W,(Op.stringOp .add ⟨s2.toArray⟩ ⟨rn.toArray⟩).run Tryz.prog W=.ok (.string ⟨s3.toArray⟩) W:=fun W=>by rw [hs3];exact run_string_add_lists W s2 rn (by omega) (by have:=HN.out;omega)
  have as4:∀ W,(Op.stringOp .add ⟨s3.toArray⟩ ⟨#[58]⟩).run Tryz.prog W=.ok (.string ⟨s4.toArray⟩) W:=fun W=>by rw [hs4];exact run_string_add_lists W s3 [58] (by omega) (by simp)
  clear hs1 hs2 hs3 hs4 l1 l2 l3
  go_enter Tryz.func55,Tryz.ntmps55
  go_upto_region 1 with fail
  rw [<- HW.out]
  go_wp2_with fail
  refine HIT.out.mono ?_
  rintro e w2 ⟨rfl,hb2⟩
  have k0:w2.cell? ⟨w.heap.size,0,none⟩=some (.string ⟨rn.toArray⟩):=(hb2.cell (World.block_lt_of_cell? W1 _ c0)).trans c0
  have HB2:=Lh (HB.out.1.trans (hb2.mono HB.out.1.size))
  clear hb2 c0 c1 c2
  go_wp2_with fail
  go_ret
  exact ⟨by rw [HR.out];rfl,HB2.out⟩
 ·have HR:Hid (R=((([104,97,114,100]++[32])++r.name)++[58])):=Lh (by rw [hR,ruleHead,hh];simp)
  try rw [hh] at HW
  try rw [hh] at c1
  try rw [hh]
  clear hR hh
  generalize r.name=rn at HR HN c0 HW ⊢
  obtain ⟨s2,hs2⟩:∃ s2:Bs,s2=[104,97,114,100]++[32]:=⟨_,rfl⟩
  obtain ⟨s3,hs3⟩:∃ s3,s3=s2++rn:=⟨_,rfl⟩
  obtain ⟨s4,hs4⟩:∃ s4,s4=s3++[58]:=⟨_,rfl⟩
  rw [<- hs2,<- hs3,<- hs4] at HR
  have l2:s2.length<=19:=by rw [hs2];simp
  have l3:s3.length<=83:=by rw [hs3];have:=HN.out;simp;omega
  have as2:∀ W,(Op.stringOp .add ⟨#[104,97,114,100]⟩ ⟨#[32]⟩).run Tryz.prog W=.ok (.string ⟨s2.toArray⟩) W:=fun W=>by rw [hs2];exact run_string_add_lists W [104,97,114,100] [32] (by simp) (by simp)
  have as3:∀ W,(Op.stringOp .add ⟨s2.toArray⟩ ⟨rn.toArray⟩).run Tryz.prog W=.ok (.string ⟨s3.toArray⟩) W:=fun W=>by rw [hs3];exact run_string_add_lists W s2 rn (by omega) (by have:=HN.out;omega)
  have as4:∀ W,(Op.stringOp .add ⟨s3.toArray⟩ ⟨#[58]⟩).run Tryz.prog W=.ok (.string ⟨s4.toArray⟩) W:=fun W=>by rw [hs4];exact run_string_add_lists W s3 [58] (by omega) (by simp)
  clear hs2 hs3 hs4 l2 l3 HIT HDL
  go_enter Tryz.func55,Tryz.ntmps55
  go_upto_region 1 with fail
  rw [<- HW.out]
  go_wp2_with fail
  go_ret
  exact ⟨by rw [HR.out];rfl,HB.out.1⟩
theorem inst_any (s:Schl) (x:SchA) (l:List Rul) (z:SlA) (i:Inx) (y:InxA) (w:World) (hI:ItoaAt) (hs:SchIn w (·<w.heap.size) s x) (hf:SchFit s) (hz:SlIn w (·<w.heap.size) (l.map Rul.toD) z) (hl:l.length<=2000000) (hfr:∀ r∈l,RulFit r) (hy:InxIn w (·<w.heap.size) i y) (hbl:i.binds.length<=2000000) (hg:GS w) :
  Calls Tryz.prog 10 #[.agg (x.cells s).toArray,.slice z.a l.length z.cap,.agg (y.cells i).toArray] w (SenP w (instF s l i.ins)):=by
 obtain ⟨R,hR⟩:∃ R,R=instF s l i.ins:=⟨_,rfl⟩
 rw [<- hR]
 obtain ⟨W1,hW1⟩:∃ W1,W1=w.alloc (.cells (x.cells s).toArray 28):=⟨_,rfl⟩
 obtain ⟨W2,hW2⟩:∃ W2,W2=W1.alloc (.cells (y.cells i).toArray 35):=⟨_,rfl⟩
 have hs1:W1.heap.size=w.heap.size+1:=by rw [hW1];simp
 have hb2:Below w.heap.size w W2:=by rw [hW2,hW1];exact ((Below.refl _ _).alloc (Nat.le_refl _) _).alloc (by simp) _
 have g1:W2.heap[w.heap.size]?=some (.cells (x.cells s).toArray 28 (0,0)):=by rw [hW2,heap_get,if_neg (by omega),hW1,heap_get,if_pos rfl]
 have g2:W2.heap[w.heap.size+1]?=some (.cells (y.cells i).toArray 35 (0,0)):=by rw [hW2,heap_get,if_pos hs1.symm]
 have HRT:=Lh (tright_any s x l z W2 hI (hs.later hb2 hb2.size) hf (hz.later hb2 hb2.size) hl hfr (hg.below hb2).gg)
 have HSE:=Lh (fun (h0:okF s l=0) (W:World) (hb:Below w.heap.size w W)=>sentence_any s x l z i y W hI (hs.later hb hb.size) hf (hz.later hb hb.size) hl hfr (hy.later hb hb.size) hbl (hg.below hb) h0)
 have HK:=Lh (aI hb2 (aI g1 g2))
 have HW:=Lh (aI hW1 hW2)
 obtain ⟨ok,hok⟩:∃ ok,ok=okF s l:=⟨_,rfl⟩
 rw [<- hok] at HRT HSE
 have HR0:=Lh (fun (h:ok=0)=>(show R=sentF s l i.ins by rw [hR,instF,<- hok,h,if_neg (by decide)]))
 have HR1:=Lh (fun (h:ok ≠ 0)=>(show R=([],ok) by rw [hR,instF,<- hok,if_pos h]))
 simp only [InxA.cells,SchA.cells,SlA.val] at HRT HSE HW g1 g2 ⊢
 have d0:W2.cell? ⟨w.heap.size,0,none⟩=some (.slice x.slots.a s.slots.length x.slots.cap):=cH g1 rfl
 have d1:W2.cell? ⟨w.heap.size,1,none⟩=some (.slice x.rooms.a s.rooms.length x.rooms.cap):=cH g1 rfl
 have d2:W2.cell? ⟨w.heap.size,2,none⟩=some (.slice x.people.a s.people.length x.people.cap):=cH g1 rfl
 have d3:W2.cell? ⟨w.heap.size,3,none⟩=some (.slice x.groups.a s.groups.length x.groups.cap):=cH g1 rfl
 have d4:W2.cell? ⟨w.heap.size,4,none⟩=some (.slice x.lessons.a s.lessons.length x.lessons.cap):=cH g1 rfl
 clear hs hf hz hfr hy hg hok hR hW1 hW2 hs1 hb2 g1 g2 hI
 go_enter Tryz.func10,Tryz.ntmps10
 go_upto_region 1 with fail
 rw [<- HW.out.1,<- HW.out.2]
 go_wp2_with fail
 refine HRT.out.mono ?_
 rintro e w3 ⟨rfl,hb3⟩
 have kS:=(hb3.block _ (gS HK.out.2.1).1).trans HK.out.2.1
 have kI:=(hb3.block _ (gS HK.out.2.2).1).trans HK.out.2.2
 have H3:=Lh (HK.out.1.trans (hb3.mono HK.out.1.size))
 simp only [InxA.cells,SchA.cells,SlA.val] at kS kI
 have e0:w3.cell? ⟨w.heap.size,0,none⟩=some (.slice x.slots.a s.slots.length x.slots.cap):=cH kS rfl
 have e1:w3.cell? ⟨w.heap.size,1,none⟩=some (.slice x.rooms.a s.rooms.length x.rooms.cap):=cH kS rfl
 have e2:w3.cell? ⟨w.heap.size,2,none⟩=some (.slice x.people.a s.people.length x.people.cap):=cH kS rfl
 have e3:w3.cell? ⟨w.heap.size,3,none⟩=some (.slice x.groups.a s.groups.length x.groups.cap):=cH kS rfl
 have e4:w3.cell? ⟨w.heap.size,4,none⟩=some (.slice x.lessons.a s.lessons.length x.lessons.cap):=cH kS rfl
 have c0:w3.cell? ⟨w.heap.size+1,0,none⟩=some (.int .i64 i.rule):=cH kI rfl
 have c1:w3.cell? ⟨w.heap.size+1,1,none⟩=some (.slice y.b.a i.binds.length y.b.cap):=cH kI rfl
 have c2:w3.cell? ⟨w.heap.size+1,2,none⟩=some (.int .i64 y.k0):=cH kI rfl
 have c3:w3.cell? ⟨w.heap.size+1,3,none⟩=some (.int .i64 y.k1):=cH kI rfl
 have c4:w3.cell? ⟨w.heap.size+1,4,none⟩=some (.int .i64 y.k2):=cH kI rfl
 have c5:w3.cell? ⟨w.heap.size+1,5,none⟩=some (.slice y.a y.n y.cap):=cH kI rfl
 clear hb3 d0 d1 d2 d3 d4 kS kI HRT
 by_cases h0:ok=0
 ·subst h0
  have HSW:=Lh (HSE.out rfl w3 H3.out)
  have HRS:=Lh (HR0.out rfl)
  go_wp2_with fail
  refine HSW.out.mono ?_
  rintro e w4 ⟨rfl,hb4⟩
  have H4:=Lh (H3.out.trans (hb4.mono H3.out.size))
  clear hb4 e0 e1 e2 e3 e4 c0 c1 c2 c3 c4 c5
  rw [<- HRS.out]
  go_wp2_with fail
  go_ret2
  exact ⟨rfl,H4.out⟩
 ·have h1:(ok==0)=false:=by simpa using h0
  have HRE:=Lh (HR1.out h0)
  go_wp2_with fail
  go_ret2
  exact SenP.mk' HRE.out H3.out
end Go.Proofs.YtncnnbmeacpboaaGreatDoor
/- tell.byRule, tell.Insts. (written by tools/gen_uby.py) -/
namespace Go.Proofs.YtncnnbmeacpboaaGreatDoor
open Go.RowKit Go.Chalk
attribute [local go_sem] Oper.semAt_some
theorem sent_len {s:Schl} {l:List Rul} {i:Ins} (hok:okF s l=0):(sentF s l i).1.length<=30000:=by
 rcases elsR_cases (s:=s) (l:=l) (i:=i) hok with ⟨_,h⟩ | ⟨k,hk,ns,_,_,hnl,hn,h⟩
 ·rw [h];simp
 ·rw [h]
  have hv:=rules_v hok _ (List.getElem_mem hk)
  have hm:=pairsTxt_len _ (zip_mem hv.enames hn)
  have hz:(((l[k]).each.map Bnd.name).zip ns).length<=6:=by have:=hv.each;simp;omega
  have ht:=synText_len (f:=renF (((l[k]).each.map Bnd.name).zip ns) (l[k]).body)
  have hnm:=hv.name
  split
  ·simp
  ·simp only [List.length_append,List.length_cons,List.length_nil]
   have:(sentHead (l[k]).name (((l[k]).each.map Bnd.name).zip ns)).length<=1000:=by
    unfold sentHead
    split
    ·omega
    ·simp only [List.length_append,List.length_cons,List.length_nil];omega
   omega
theorem flats_map {α:Type} {f:α->D} {sz:Nat} (hf:FlatT f sz):∀ l:List α,flats (l.map f)=true
 | []=>rfl
 | x :: r=>by rw [List.map_cons,flats,hf.flat,flats_map hf r];rfl
theorem rhead_len {r:Rul} (h:RulV r):(ruleHead r).length<=1000:=by
 have h1:=decI_len (n:=r.weight) h.weight.1 (by have:=h.weight.2;omega)
 have h2:=h.name
 unfold ruleHead
 cases r.hard <;> simp <;> omega
theorem TxtsF.wider {lo lo':Nat} {w:World} {v:Value} {l:List Bs} (h:TxtsF lo w v l) (hl:lo'<=lo):TxtsF lo' w v l:=by obtain ⟨x,h1,h2⟩:=h;exact ⟨x,h1,h2.mono (fun k hk=>⟨by omega,hk.2⟩)⟩
def ByP (w:World) (r:List Bs×Int) (e:Ending) (w':World):Prop:=∃ v,e=.returned (.tuple #[v,.int .i64 r.2])/\TxtsF w.heap.size w' v r.1/\Below w.heap.size w w'
theorem byRule_any (s:Schl) (x:SchA) (l:List Rul) (z:SlA) (xs:List Inx) (xa:SlA) (w:World) (hI:ItoaAt) (hs:SchIn w (·<w.heap.size) s x) (hf:SchFit s) (hz:SlIn w (·<w.heap.size) (l.map Rul.toD) z) (hl:l.length<=2000000) (hfr:∀ r∈l,RulFit r)
  (hx:SlIn w (·<w.heap.size) (xs.map Inx.toD) xa) (hxl:xs.length<=1000000) (hbl:∀ i∈xs,i.binds.length<=2000000) (hg:GS w) (hok:okF s l=0) :
  Calls Tryz.prog 30 #[.agg (x.cells s).toArray,.slice z.a l.length z.cap,.slice xa.a xs.length xa.cap] w (ByP w (byRuleF s l (xs.map Inx.ins))):=by
 obtain ⟨R,hR⟩:∃ R,R=byRuleF s l (xs.map Inx.ins):=⟨_,rfl⟩
 rw [<- hR]
 obtain ⟨X,hX⟩:∃ X,X=xs.map Inx.ins:=⟨_,rfl⟩
 rw [<- hX] at hR
 have hXL:X.length=xs.length:=by rw [hX,List.length_map]
 have hXG:∀ (j:Nat) (hj:j<xs.length),X[j]'(by omega)=(xs[j]).ins:=fun j hj=>by subst hX;rw [List.getElem_map]
 have HR1:=Lh (fun (e:Int) (h:e ≠ 0) (h2:sentsErr s l X=e)=>(show R=([],e) by rw [hR,byRuleF,h2,if_pos h]))
 have HR0:=Lh (fun (h2:sentsErr s l X=0)=>(show R=(byRuleGo s l X 0 l,0) by rw [hR,byRuleF,h2,if_neg (by decide)]))
 obtain ⟨W1,hW1⟩:∃ W1,W1=w.alloc (.cells (x.cells s).toArray 28):=⟨_,rfl⟩
 obtain ⟨W2,hW2⟩:∃ W2,W2=W1.alloc (.map #[] 0):=⟨_,rfl⟩
 obtain ⟨MB,hMB⟩:∃ MB,MB=W1.heap.size:=⟨_,rfl⟩
 have hs1:W1.heap.size=w.heap.size+1:=by rw [hW1];simp
 have hs2:W2.heap.size=w.heap.size+2:=by rw [hW2];simp [hs1]
 have hb2:Below w.heap.size w W2:=by rw [hW2,hW1];exact ((Below.refl _ _).alloc (Nat.le_refl _) _).alloc (by simp) _
 have g1:W2.heap[w.heap.size]?=some (.cells (x.cells s).toArray 28 (0,0)):=by rw [hW2,heap_get,if_neg (by omega),hW1,heap_get,if_pos rfl]
 have g2:NumAt W2 MB []:=by rw [hW2,hMB];exact numAt_new W1
 have HSE:=Lh (fun (i:Inx) (y:InxA) (W:World) (hb:Below w.heap.size w W) (hy:InxIn W (·<W.heap.size) i y) (hbi:i.binds.length<=2000000)=>sentence_any s x l z i y W hI (hs.later hb hb.size) hf (hz.later hb hb.size) hl hfr hy hbi (hg.below hb) hok)
 have HXI:=Lh (fun (W:World) (hb:Below w.heap.size w W)=>hx.later hb hb.size)
 have HBL:=Lh hbl
 have HZ:=Lh hz
 have HGS:=Lh hg
 have HV:=Lh (rules_v hok)
 have HK:=Lh (aI hb2 (aI g1 (aI hs2 (show MB=w.heap.size+1 by omega))))
 have HG2:=Lh (Gmp.new (e:=9) (lo:=w.heap.size+2) g2 (by omega))
 have HW:=Lh (aI hW1 (aI hW2 hMB))
 have HX:=Lh (fun (j:Nat) (hj:j<xs.length)=>(⟨by omega,hXG j hj⟩:∃ hj':j<X.length,X[j]=(xs[j]).ins))
 have HXL:=Lh hXL
 have HLL:=Lh (aI hl hxl)
 have HSL:=Lh (fun (i:Ins)=>sent_len (s:=s) (l:=l) (i:=i) hok)
 have hmm := @run_makeMap Tryz.prog
 simp only [SchA.cells,SlA.val] at HSE HW HK ⊢
 clear hs hf hz hfr hx hbl hg hok hR hX hXL hXG hW1 hW2 hMB hs1 hs2 hb2 g1 g2 hI
 go_enter Tryz.func30,Tryz.ntmps30
 go_upto_region 1 with fail
 rw [<- HW.out.1]
 go_upto_region 2 with fail
 rw [<- HW.out.2.1,<- HW.out.2.2]
 obtain ⟨i0,hi,hz0,hz1,hz2⟩:=info_parts infoStr
 go_wp2_with fail
 go_loopw [20] (fun i wr=>∃ j:Nat,j<=xs.length/\i=.int .i64 j/\Hid (Chalk.Mod (fun k=>k=MB) W2 wr)/\Hid (∃ t rw,Gmp wr 9 MB (w.heap.size+2) (grpL s l X j) t rw)/\Hid (sentsErr s l X=sentsErr s l (X.drop j))) (fun i _=>xs.length - (intOf i).toNat)
 case atStart=>exact ⟨0,Nat.zero_le _,rfl,Lh (Chalk.Mod.refl _ _),Lh (by rw [grpL_zero];exact ⟨_,_,HG2.out⟩),Lh rfl⟩
 case round =>
  obtain ⟨j,hj,rfl,HMD,HGP,HSR⟩:=hrel
  have hk2:=HK.out.2.2
  have hbw:Below w.heap.size w wr:=HK.out.1.trans (HMD.out.below (by omega) (fun k hk=>by omega))
  have kS:wr.heap[w.heap.size]?=some (.cells #[.slice x.slots.a s.slots.length x.slots.cap,.slice x.rooms.a s.rooms.length x.rooms.cap,.slice x.people.a s.people.length x.people.cap,.slice x.groups.a s.groups.length x.groups.cap,.slice x.lessons.a s.lessons.length x.lessons.cap] 28 (0,0)):=heap_kept HK.out.2.1 HMD.out (by omega)
  by_cases hlt:j<xs.length
  ·obtain ⟨y,hy1,hy2⟩:=(HXI.out wr hbw).inx j hlt
   obtain ⟨hxa,hxb⟩:=(HXI.out wr hbw).at_ (by rw [List.length_map];omega)
   obtain ⟨q0,q1,q2,q3,q4,q5⟩:=CellsAt.six hy2
   obtain ⟨Wt,hWt⟩:∃ Wt,Wt=wr.alloc (.cells (y.cells xs[j]).toArray 35):=⟨_,rfl⟩
   have hbt:Below wr.heap.size wr Wt:=by rw [hWt];exact (Below.refl _ _).alloc (Nat.le_refl _) _
   have kt:Wt.heap[wr.heap.size]?=some (.cells (y.cells xs[j]).toArray 35 (0,0)):=by rw [hWt,heap_get,if_pos rfl]
   have kSt:=(hbt.block _ (gS kS).1).trans kS
   have hbwt:=hbw.trans (hbt.mono hbw.size)
   have HCALL:=Lh (HSE.out xs[j] y Wt hbwt (hy1.later hbt hbt.size) (HBL.out _ (List.getElem_mem hlt)))
   have HKT:=Lh (aI kt (aI hbwt (aI hbt kSt)))
   have HWT:=Lh hWt
   have HLT:=Lh hlt
   obtain ⟨hXj,hXe⟩:=HX.out j hlt
   have hE0:=sentsErr_at hXj HSR.out
   have hGR:=grpL_succ (s:=s) (l:=l) hXj
   rw [hXe] at hE0 hGR
   have HE:=Lh hE0
   have HGR:=Lh hGR
   have HTXL:=Lh (HSL.out (xs[j]).ins)
   clear hXj hXe hE0 hGR
   have d0:Wt.cell? ⟨w.heap.size,0,none⟩=some (.slice x.slots.a s.slots.length x.slots.cap):=cH kSt rfl
   have d1:Wt.cell? ⟨w.heap.size,1,none⟩=some (.slice x.rooms.a s.rooms.length x.rooms.cap):=cH kSt rfl
   have d2:Wt.cell? ⟨w.heap.size,2,none⟩=some (.slice x.people.a s.people.length x.people.cap):=cH kSt rfl
   have d3:Wt.cell? ⟨w.heap.size,3,none⟩=some (.slice x.groups.a s.groups.length x.groups.cap):=cH kSt rfl
   have d4:Wt.cell? ⟨w.heap.size,4,none⟩=some (.slice x.lessons.a s.lessons.length x.lessons.cap):=cH kSt rfl
   rw [hxa]
   clear hy1 hy2 hxb hWt hbt kt kSt hbwt kS hbw HSR hk2
   clear hxa
   generalize xs[j]=ij at q0 q1 q2 q3 q4 q5 HCALL HKT HWT HGR HE HTXL
   obtain ⟨rule,bi,tr⟩:=ij
   simp only [InxA.cells,SlA.val,Inx.ins] at q0 q1 q2 q3 q4 q5 HCALL HKT HWT HGR HE HTXL
   generalize sentF s l ⟨rule,bi⟩=SF at HCALL HE HGR HTXL
   have c0:Wt.cell? ⟨wr.heap.size,0,none⟩=some (.int .i64 rule):=cH HKT.out.1 rfl
   have c1:Wt.cell? ⟨wr.heap.size,1,none⟩=some (.slice y.b.a bi.length y.b.cap):=cH HKT.out.1 rfl
   have c2:Wt.cell? ⟨wr.heap.size,2,none⟩=some (.int .i64 y.k0):=cH HKT.out.1 rfl
   have c3:Wt.cell? ⟨wr.heap.size,3,none⟩=some (.int .i64 y.k1):=cH HKT.out.1 rfl
   have c4:Wt.cell? ⟨wr.heap.size,4,none⟩=some (.int .i64 y.k2):=cH HKT.out.1 rfl
   have c5:Wt.cell? ⟨wr.heap.size,5,none⟩=some (.slice y.a y.n y.cap):=cH HKT.out.1 rfl
   go_upto_region 5 with fail
   rw [<- HWT.out]
   clear q0 q1 q2 q3 q4 q5
   go_wp2_with fail
   refine HCALL.out.mono ?_
   rintro e w8 ⟨rfl,hb8⟩
   have k8:=(hb8.block _ (gS HKT.out.1).1).trans HKT.out.1
   have H8:=Lh (aI (HKT.out.2.1.trans (hb8.mono HKT.out.2.1.size)) (aI hb8 k8))
   clear hb8 k8 d0 d1 d2 d3 d4 c0 c1 c2 c3 c4 c5 HCALL
   obtain ⟨tx,er⟩:=SF
   simp only at HE HGR HTXL ⊢
   by_cases her:er=0
   rotate_left
   ·have her2:(er==0)=false:=by simpa using her
    have HRE:=Lh (HR1.out er her (HE.out.trans (if_pos her)))
    go_wp2_with fail
    go_ret2
    exact ⟨_,by rw [HRE.out];rfl,by rw [HRE.out];exact TxtsF.nil _ _,H8.out.1⟩
   subst her
   have HE0:=Lh (HE.out.trans (if_neg (by decide)))
   clear HE
   obtain ⟨t,rw,hgp⟩:=HGP.out
   have hbr:Below wr.heap.size wr w8:=HKT.out.2.2.1.trans (H8.out.2.1.mono HKT.out.2.2.1.size)
   have hg8:=hgp.later hbr (Nat.le_refl _)
   have HG8:=Lh hg8
   obtain ⟨r,hr⟩:∃ r,r=rw rule:=⟨_,rfl⟩
   obtain ⟨vv,hvv⟩:∃ vv,vv=(numGet t rule).getD (.slice none 0 0):=⟨_,rfl⟩
   have hown:=hg8.own rule
   rw [<- hr,<- hvv] at hown
   have hrl:∀ k,r=some k->w.heap.size+2<=k/\k<wr.heap.size:=fun k hk=>⟨hgp.low rule k (by rw [<- hr];exact hk),hgp.row_lt (q:=rule) (by rw [<- hr];exact hk)⟩
   have hMBl:MB<wr.heap.size:=hgp.bound
   have hk2:=HK.out.2.2
   have hs8:=hbr.size
   have HC8:Hid (∀ W,Chalk.Mod (fun k=>r=some k) w8 W->W.cell? ⟨wr.heap.size,0,none⟩=some (.int .i64 rule)/\(Instr.lookup 112 (.map (some MB)) (.int .i64 rule) false).run Tryz.prog W=.ok vv W):=Lh (fun W hW=>by
    have k2:=heap_kept H8.out.2.2 hW (fun e=>by have:=hrl _ e;omega)
    refine ⟨cH k2 rfl,?_⟩
    rw [hvv]
    exact num_look W 112 _ _ MB t rule _ Tryz.underlying112 Tryz.underlying3 Tryz.zeroValue47 (heap_kept hg8.at_ hW (fun e=>by have:=hrl _ e;omega)))
   obtain ⟨oa,ocap,hof⟩:=hown.form
   rw [List.length_map] at hof
   have HGL:=Lh (show (grpL s l X j rule).length<=1000000 by have:=grpL_len s l X j rule;have:=HXL.out;omega)
   obtain ⟨gl,hgl⟩:∃ gl,gl=grpL s l X j rule:=⟨_,rfl⟩
   rw [<- hgl] at hown hof HGL
   obtain ⟨nn,hnn⟩:∃ nn,nn=gl.length:=⟨_,rfl⟩
   rw [<- hnn] at hof HGL
   have HO8:=Lh (aI hown (aI hrl (aI hr hgl)))
   have HNN:=Lh hnn
   have HSZ:=Lh (aI hMBl (aI hk2 hs8))
   obtain ⟨s2,hs2⟩:∃ s2,s2=[32,32]++tx:=⟨_,rfl⟩
   rw [<- hs2] at HGR
   have hTX:tx.length<=30000:=HTXL.out
   have HS2L:=Lh (show s2.length<=8388608 by rw [hs2];simp;omega)
   have ha1:∀ W,(Op.stringOp .add ⟨#[32,32]⟩ ⟨tx.toArray⟩).run Tryz.prog W=.ok (.string ⟨s2.toArray⟩) W:=fun W=>by rw [hs2];exact run_string_add_lists W [32,32] tx (by simp) (by omega)
   rw [hof] at HC8 HO8
   clear hgp hbr hg8 hr hown hrl hMBl hk2 hs8 hgl hnn hs2 hvv hof hTX
   clear vv
   go_upto_region 8 with fail
   refine wp_region_U 11 (S:=fun W=>Chalk.Mod (fun k=>r=some k) w8 W) (by kernel_rfl) (Chalk.Mod.refl _ _).drew (fun hHeld=>?_)
   refine tkH (i:=0) rfl hHeld HC8 ?_
   refine tkH (i:=1) rfl hHeld HC8 ?_
   refine tkH (i:=2) rfl hHeld HC8 ?_
   refine tkH (i:=3) rfl hHeld HC8 ?_
   refine tkH (i:=4) rfl hHeld HC8 ?_
   refine tkH (i:=5) rfl hHeld HC8 ?_
   refine tkH (i:=6) rfl hHeld HC8 ?_
   refine tkH (i:=7) rfl hHeld HC8 ?_
   refine tkH (i:=8) rfl hHeld HC8 ?_
   refine ready_U (rs:=[9]) (by kernel_rfl) (by simp) ?_
   refine cons_U rfl (fun K hK=>?_) nil_U
   go_simp
   refine hK.out _ _ (hHeld.alloc _) fun hHeld=>?_
   clear hK K
   try simp only [Act.put,ub1,ub2,ub3]
   obtain ⟨B,hB⟩:∃ B,B=w8.heap.size:=⟨_,rfl⟩
   rw [<- hB]
   have hlit:Chalk.Own (w8.alloc (.cells #[.string ⟨s2.toArray⟩] 9)).drew (fun _=>False) 9 1 (.slice (some ⟨B,0,none⟩) 1 1) (some B) [dstr s2]:=by rw [hB];exact (Chalk.Own.lit (w:=w8) (n:=1) (cs:=[.string ⟨s2.toArray⟩]) rfl (by unfold maxLen;omega) rfl (dstr_at (by have:=HS2L.out;unfold maxLen;omega)) (fun _ h=>h.elim)).kept (Chalk.Mod.refl (fun _=>False) _).drew (fun _ h=>h.elim) (fun _ _ h=>h)
   have hso:Chalk.Own (w8.alloc (.cells #[.string ⟨s2.toArray⟩] 9)).drew (fun _=>False) 9 1 (.slice oa nn ocap) r (gl.map dstr):=HO8.out.1.kept ((Chalk.Mod.refl (fun _=>False) w8).alloc _).drew (fun _ h=>h.elim) (fun _ _ h=>h)
   have hs9:(w8.alloc (.cells #[.string ⟨s2.toArray⟩] 9)).drew.heap.size=B+1:=by rw [hB];simp
   generalize (w8.alloc (.cells #[.string ⟨s2.toArray⟩] 9)).drew=W9 at hHeld hlit hso hs9 ⊢
   have hsr:=hlit.read (G:=fun k=>k=B) (fun _ h=>h.elim) (fun k hk=>(Option.some.inj hk).symm) rfl
   have hsw:=hso.widen (G:=fun k=>k=B) (fun _ h=>h.elim) (fun k hk e=>by have h1:=HO8.out.2.1 k hk;have h2:=HSZ.out;omega) (fun k hk=>by omega)
   have HS9:=Lh (aI hsr (aI hsw (aI hB hs9)))
   clear hlit hso hsr hsw hB hs9
   refine ready_U (rs:=[10]) (by kernel_rfl) (by simp) ?_
   refine cons_U rfl (fun K hK=>?_) nil_U
   refine step_append_src _ rfl _ _ 47 rfl 9 i0 _ 1 16 Tryz.underlying47 hi hz0 hz1 hz2 rfl (by decide) (.slice oa nn ocap) (.slice (some ⟨B,0,none⟩) 1 1) (fun k=>k=B) r (gl.map dstr) [dstr s2] rfl rfl HS9.out.2.1 HS9.out.1 rfl (by rw [List.length_map,<- HNN.out];simp;have:=HGL.out;unfold maxLen;omega) (by rw [List.length_map,<- HNN.out];simp;have:=HGL.out;omega) ?_
   intro ao cap r' w10 hown hmod hat
   rw [List.length_map,<- HNN.out] at hown ⊢
   have hM10:Chalk.Mod (fun k=>r=some k) w8 w10:=hHeld.trans hmod (fun _ _ h=>h)
   simp only [List.length_cons,List.length_nil,Nat.zero_add] at hown ⊢
   have h10:NumAt w10 MB t:=heap_kept HG8.out.at_ hM10 (fun e=>by have:=HO8.out.2.1 _ e;have:=HSZ.out;omega)
   have hput:=num_put (P:=Tryz.prog) w10 112 _ _ MB t rule (.slice ao (nn+1) cap) Tryz.underlying112 Tryz.underlying3 h10
   have hfl:=hown.flat (G:=fun _=>False) (by rw [flats_append,flats_map dstr_flat];rfl) (fun _ _ h=>h) (fun _ h=>h.elim)
   have hst:=HG8.out.step (q0:=rule) (v':=.slice ao (nn+1) cap) (r':=r') (s2:=s2) (by have:=HSZ.out;omega) (by rw [<- HO8.out.2.2.1];exact hM10) (by rw [<- HO8.out.2.2.2,List.map_append];exact hfl) (by rw [<- HO8.out.2.2.1];rcases hat with h | h;exact .inl h;exact .inr ⟨_,h,by have:=HS9.out.2.2;omega⟩)
   obtain ⟨OB,hOB⟩:∃ OB,OB=Obj.map (numEs 0 (numPut t rule (.slice ao (nn+1) cap))).toArray (numPut t rule (.slice ao (nn+1) cap)).length:=⟨_,rfl⟩
   rw [<- hOB] at hput hst
   have HST:=Lh (aI hst hM10)
   clear hown hat hmod h10 hfl hst hOB
   refine hK.out _ _ ?_ (fun hHeld2=>?_)
   ·exact hM10
   clear hK K hHeld hM10
   clear hHeld2
   try simp only [Act.put,ub1,ub2,ub3]
   refine ready_U (rs:=[11]) (by kernel_rfl) (by simp) ?_
   refine cons_V rfl (by kernel_rfl) (fun K hK=>?_) nil_U
   go_simp
   refine hK.out _ _ ?_
   clear hK K
   try simp only [Act.put,ub1,ub2,ub3]
   refine done_U (by kernel_rfl) ?_ _
   go_wp2_with fail
   refine ⟨⟨j+1,by omega,by go_num,Lh ?_,Lh (by rw [HGR.out];exact ⟨_,_,HST.out.1⟩),HE0⟩,by simp [intOf];omega⟩
   have h1:=HMD.out.trans (Chalk.Mod.of_below (S:=fun _=>False) (HKT.out.2.2.1.trans (H8.out.2.1.mono HKT.out.2.2.1.size))) (fun _ _ h=>h.elim)
   exact (h1.trans HST.out.2 (fun k hk e=>by have:=HO8.out.2.1 k e;have:=HK.out.2.2;omega)).trans (Chalk.Mod.putObj _ _ _) (fun k _ hk=>hk)
  ·have hjl:j=xs.length:=by omega
   subst hjl
   obtain ⟨w20,rfl⟩:∃ w20,w20=wr:=⟨wr,rfl⟩
   have hse:sentsErr s l X=0:=by rw [HSR.out,List.drop_of_length_le (by rw [HXL.out];exact Nat.le_refl _),sentsErr]
   have HRF:=Lh (HR0.out hse)
   obtain ⟨t,rw,hgp⟩:=HGP.out
   rw [<- HXL.out] at hgp
   have HGF:=Lh hgp
   have HB20:=Lh hbw
   have HMX:=Lh (aI hbw.size (aI hgp.bound hk2))
   clear hse hgp HGP HSR kS hbw hk2 hlt HR1 HR0
   go_wp2_with fail
   go_loopw [13,48] (fun ov i wr=>∃ k:Nat,k<=l.length/\i=.int .i64 k/\Hid (Below w20.heap.size w20 wr)/\Hid (OwnN wr w20.heap.size (fun _=>False) 9 1 ov ((byRuleGo s l X 0 (l.take k)).map dstr))) (fun _ i _=>l.length - (intOf i).toNat)
   case atStart=>exact ⟨0,Nat.zero_le _,rfl,Lh (Below.refl _ _),Lh (OwnN.nil _ _ _ _ _ (fun _ h=>h.elim))⟩
   case round =>
    obtain ⟨k,hk,rfl,HB,HO⟩:=hrel
    have hbw:Below w.heap.size w wr:=HB20.out.trans (HB.out.mono HB20.out.size)
    obtain ⟨oa,ocap,ho⟩:=HO.out.form
    subst ho
    obtain ⟨bl,hbl⟩:∃ bl,bl=byRuleGo s l X 0 (l.take k):=⟨_,rfl⟩
    have hbll:bl.length<=2000002000000:=by have h1:=byRuleGo_len s l X (l.take k) 0;have h2:=HLL.out.1;have h2b:=HLL.out.2;have h3:=HXL.out;rw [<- hbl,List.length_take] at h1;exact Nat.le_trans h1 (Nat.le_trans (Nat.mul_le_mul (show min k l.length<=2000000 by omega) (show X.length+1<=1000001 by omega)) (by decide))
    rw [<- hbl] at HO ⊢
    rw [List.length_map]
    rw [List.length_map] at HO
    obtain ⟨nn,hnn⟩:∃ nn,nn=bl.length:=⟨_,rfl⟩
    rw [<- hnn] at HO hbll ⊢
    have HNN:=Lh (aI hnn hbll)
    have HBLD:=Lh hbl
    clear hbl hnn hbll
    by_cases hlt:k<l.length
    ·obtain ⟨yr,hyr,hyc⟩:=(SlIn.later HZ.out hbw hbw.size).rul k hlt
     obtain ⟨hza,hzb⟩:=(SlIn.later HZ.out hbw hbw.size).at_ (by rw [List.length_map];omega)
     have HVR:=Lh (HV.out _ (List.getElem_mem hlt))
     obtain ⟨Wt,hWt⟩:∃ Wt,Wt=wr.alloc (.cells (yr.cells l[k]).toArray 66):=⟨_,rfl⟩
     have hbt:Below wr.heap.size wr Wt:=by rw [hWt];exact (Below.refl _ _).alloc (Nat.le_refl _) _
     have kt:Wt.heap[wr.heap.size]?=some (.cells (yr.cells l[k]).toArray 66 (0,0)):=by rw [hWt,heap_get,if_pos rfl]
     have hb20t:Below w20.heap.size w20 Wt:=HB.out.trans (hbt.mono HB.out.size)
     have hgt:=HGF.out.later hb20t (Nat.le_refl _)
     have hlk:=num_look (P:=Tryz.prog) Wt 112 _ _ MB t (k:Int) _ Tryz.underlying112 Tryz.underlying3 Tryz.zeroValue47 hgt.at_
     have hown:=HGF.out.own (k:Int)
     obtain ⟨r,hr⟩:∃ r,r=rw (k:Int):=⟨_,rfl⟩
     obtain ⟨vv,hvv⟩:∃ vv,vv=(numGet t (k:Int)).getD (.slice none 0 0):=⟨_,rfl⟩
     rw [<- hr,<- hvv] at hown
     rw [<- hvv] at hlk
     have hrl:∀ q,r=some q->q<w20.heap.size:=fun q hq=>hown.row_lt hq
     obtain ⟨gl,hgl⟩:∃ gl,gl=grpL s l X X.length (k:Int):=⟨_,rfl⟩
     rw [<- hgl] at hown
     obtain ⟨ga,gcap,hgf⟩:=hown.form
     rw [List.length_map] at hgf
     have hgll:gl.length<=1000000:=by rw [hgl];have:=grpL_len s l X X.length (k:Int);have:=HXL.out;omega
     obtain ⟨gn,hgn⟩:∃ gn,gn=gl.length:=⟨_,rfl⟩
     rw [<- hgn] at hgf hgll
     subst hgf
     have HTK:=Lh (byRule_take (s:=s) (X:=X) hlt)
     rw [<- HBLD.out,grpL_all,<- hgl] at HTK
     have HHD:=Lh (fun (W:World) (hW:Below Wt.heap.size Wt W)=>thead_any l[k] yr W (HGS.out.below ((hbw.trans (hbt.mono hbw.size)).trans (hW.mono (hbw.trans (hbt.mono hbw.size)).size))) HVR.out.name HVR.out.weight)
     have HOW:=Lh (aI hown (aI hrl (aI hgn hgll)))
     have HT:=Lh (aI hb20t (aI kt (HO.out.below hbt)))
     have HHL:=Lh (rhead_len HVR.out)
     have HWT:=Lh hWt
     rw [hza]
     have hyc:=hyc
     clear hyr hza hzb hWt hbt hb20t hgt hown hr hvv hrl hgl hbw HO
     generalize l[k]=re at hyc kt HTK HHD HT HWT HHL
     obtain ⟨rn,hard,weight,each,⟨kind,fname,n,terms,binds,fl⟩⟩:=re
     obtain ⟨yee,yeb⟩:=yr
     simp only [RulA.cells,FrmA.cells,SlA.val,Frm.kind,Frm.name,Frm.n,Frm.terms,Frm.binds,Frm.l] at hyc kt HHD HT HWT
     obtain ⟨e0,e1,e2,e3,e4,e5,e6,e7,e8,e9⟩:=hyc.ten
     have q0:Wt.cell? ⟨wr.heap.size,0,none⟩=some (.string ⟨rn.toArray⟩):=cH kt rfl
     have q1:Wt.cell? ⟨wr.heap.size,1,none⟩=some (.bool hard):=cH kt rfl
     have q2:Wt.cell? ⟨wr.heap.size,2,none⟩=some (.int .i64 weight):=cH kt rfl
     have q3:Wt.cell? ⟨wr.heap.size,3,none⟩=some (.slice yee.a each.length yee.cap):=cH kt rfl
     have q4:Wt.cell? ⟨wr.heap.size,4,none⟩=some (.int .i64 kind):=cH kt rfl
     have q5:Wt.cell? ⟨wr.heap.size,5,none⟩=some (.string ⟨fname.toArray⟩):=cH kt rfl
     have q6:Wt.cell? ⟨wr.heap.size,6,none⟩=some (.int .i64 n):=cH kt rfl
     have q7:Wt.cell? ⟨wr.heap.size,7,none⟩=some (.slice yeb.t.a terms.length yeb.t.cap):=cH kt rfl
     have q8:Wt.cell? ⟨wr.heap.size,8,none⟩=some (.slice yeb.b.a binds.length yeb.b.cap):=cH kt rfl
     have q9:Wt.cell? ⟨wr.heap.size,9,none⟩=some (.slice yeb.l.a fl.length yeb.l.cap):=cH kt rfl
     clear hyc kt
     go_upto_region 14 with fail
     rw [<- HWT.out]
     clear e0 e1 e2 e3 e4 e5 e6 e7 e8 e9
     by_cases hg0:gn=0
     ·have hnil:gl=[]:=List.length_eq_zero_iff.1 (HOW.out.2.2.1.symm.trans hg0)
      have HTK2:=Lh (HTK.out.trans (by rw [if_pos hnil,List.append_nil]))
      subst hg0
      clear hnil hgn
      go_wp2_with fail
      refine ⟨⟨k+1,by omega,by go_num,Lh HT.out.1,Lh ?_⟩,by simp [intOf];omega⟩
      rw [HTK2.out];exact HT.out.2.2
     ·have hgp:(0:Int)<(gn:Int):=by omega
      have HTK2:=Lh (HTK.out.trans (by rw [if_neg (fun e=>hg0 (by rw [HOW.out.2.2.1,e];rfl))]))
      have HHW:=Lh (HHD.out Wt (Below.refl _ _))
      obtain ⟨hd,hhd⟩:∃ hd,hd=ruleHead ⟨rn,hard,weight,each,.mk kind fname n terms binds fl⟩:=⟨_,rfl⟩
      rw [<- hhd] at HHW HTK2 HHL
      clear hhd hg0 hgn HTK HHD
      go_wp2_with fail
      refine HHW.out.mono ?_
      rintro e w3 ⟨rfl,hb3⟩
      have H3:=Lh (aI (HT.out.1.trans (hb3.mono HT.out.1.size)) (HT.out.2.2.below hb3))
      clear hb3 q0 q1 q2 q3 q4 q5 q6 q7 q8 q9
      go_wp2_with (first | (at_builtin;refine wpList_append_oneO (B:=w3.heap.size) rfl rfl _ _ 47 rfl 9 i0 _ 1 16 Tryz.underlying47 hi hz0 hz1 hz2 rfl (by decide) (.slice oa nn ocap) (bl.map dstr) (dstr hd) [.string ⟨hd.toArray⟩] 9 rfl rfl H3.out.2 (dstr_at (by have:=HHL.out;unfold maxLen;omega)) H3.out.1.size rfl (by rw [List.length_map,<- HNN.out.1];have:=HNN.out.2;unfold maxLen;omega) (by rw [List.length_map,<- HNN.out.1];have:=HNN.out.2;omega) ?_;intro ao cap w4 hon hb4;rw [List.length_map,<- HNN.out.1] at hon ⊢;have H4:=Lh (by (obtain ⟨r3,h1,h2⟩:=hon;have hbb:=H3.out.1.trans hb4;exact ⟨hbb,r3,h1.widen (G:=fun q=>r=some q) (fun _ h=>h.elim) (fun q hq e=>by have h5:=h2 q hq;have h6:=HOW.out.2.1 q e;omega) (fun q hq=>by have h6:=HOW.out.2.1 q hq;have h7:=hbb.size;omega),h2,(HOW.out.1.below hbb).read (G:=fun q=>r=some q) (fun _ h=>h.elim) (fun q hq=>hq) (by rw [widths_map dstr_flat];simp)⟩):Below w20.heap.size w20 w4/\∃ r3,Chalk.Own w4 (fun q=>r=some q) 9 1 (.slice ao (nn+1) cap) r3 (bl.map dstr++[dstr hd])/\(∀ q,r3=some q->w20.heap.size<=q)/\DAt w4 (fun q=>r=some q) (.sl (gl.map dstr)) [.slice ga gn gcap]);clear hon hb4;obtain ⟨hq1,r3,hq2,hq3,hq4⟩:=H4.out;have H4b:=Lh (aI hq1 (aI hq2 (aI hq3 hq4)));clear hq1 hq2 hq3 hq4 H4) | (at_builtin;go_must (refine wpList_append_src _ (by rfl) _ _ _ rfl 9 i0 _ 1 16 Tryz.underlying47 hi hz0 hz1 hz2 rfl (by decide) (.slice ao (nn+1) cap) (.slice ga gn gcap) (fun q=>r=some q) r3 (bl.map dstr++[dstr hd]) (gl.map dstr) rfl rfl H4b.out.2.1 H4b.out.2.2.2 (by rw [widths_map dstr_flat];simp) (by simp only [List.length_append,List.length_map,List.length_cons,List.length_nil];rw [<- HNN.out.1,<- HOW.out.2.2.1];have:=HNN.out.2;have:=HOW.out.2.2.2;unfold maxLen;omega) (by simp only [List.length_append,List.length_map,List.length_cons,List.length_nil];rw [<- HNN.out.1,<- HOW.out.2.2.1];have:=HNN.out.2;have:=HOW.out.2.2.2;omega) ?_);intro ao2 cap2 r4 w5 hown5 hmod5 hat5;rw [show (bl.map dstr++[dstr hd]).length+(gl.map dstr).length=nn+1+gn by simp only [List.length_append,List.length_map,List.length_cons,List.length_nil];rw [<- HNN.out.1,<- HOW.out.2.2.1]] at hown5 ⊢;have H5:=Lh (aI hown5 (aI hmod5 hat5));clear hown5 hmod5 hat5))
      have hs4:=H4b.out.1.size
      refine ⟨⟨k+1,by omega,by go_num,Lh (H4b.out.1.trans (H5.out.2.1.below (by omega) (fun q hq=>H4b.out.2.2.1 q hq))),Lh ?_⟩,by simp [intOf];omega⟩
      rw [HTK2.out,List.map_append,List.map_cons]
      refine ⟨r4,?_,fun q hq=>?_⟩
      ·have:=H5.out.1.flat (G:=fun _=>False) (by rw [flats_append,flats_append,flats_map dstr_flat,flats_map dstr_flat];rfl) (fun _ _ h=>h) (fun _ h=>h.elim)
       rwa [List.append_assoc] at this
      ·rcases H5.out.2.2 with h | h
       ·exact H4b.out.2.2.1 q (h ▸ hq)
       ·rw [h] at hq;have:=Option.some.inj hq;omega
    ·have hkl:k=l.length:=by omega
     subst hkl
     have HBF:=Lh hbw
     clear hbw
     go_wp2_with fail
     go_ret2
     refine ⟨_,by rw [HRF.out];rfl,?_,HBF.out⟩
     rw [HRF.out]
     have hbe:bl=byRuleGo s l X 0 l:=by rw [HBLD.out,List.take_length]
     rw [<- hbe]
     obtain ⟨r3,h1,h2⟩:=HO.out
     have hlo:=HMX.out.1
     obtain ⟨x0,hx0,hx1⟩:=h1.sl (G:=fun q=>w.heap.size<=q/\q<wr.heap.size) (fun _ h=>h.elim) (fun q hq=>⟨by have:=h2 q hq;omega,h1.row_lt hq⟩) (by rw [widths_map dstr_flat];simp)
     rw [SlA.val,List.length_map,<- HNN.out.1] at hx0
     exact ⟨x0,by rw [<- HNN.out.1];exact hx0,hx1⟩
theorem insts_any (s:Schl) (x:SchA) (l:List Rul) (z:SlA) (xs:List Inx) (xa:SlA) (w:World) (hI:ItoaAt) (hs:SchIn w (·<w.heap.size) s x) (hf:SchFit s) (hz:SlIn w (·<w.heap.size) (l.map Rul.toD) z) (hl:l.length<=2000000) (hfr:∀ r∈l,RulFit r)
  (hx:SlIn w (·<w.heap.size) (xs.map Inx.toD) xa) (hxl:xs.length<=1000000) (hbl:∀ i∈xs,i.binds.length<=2000000) (hg:GS w) :
  Calls Tryz.prog 13 #[.agg (x.cells s).toArray,.slice z.a l.length z.cap,.slice xa.a xs.length xa.cap] w (ByP w (instsF s l (xs.map Inx.ins))):=by
 obtain ⟨R,hR⟩:∃ R,R=instsF s l (xs.map Inx.ins):=⟨_,rfl⟩
 rw [<- hR]
 obtain ⟨W1,hW1⟩:∃ W1,W1=w.alloc (.cells (x.cells s).toArray 28):=⟨_,rfl⟩
 have hb1:Below w.heap.size w W1:=by rw [hW1];exact (Below.refl _ _).alloc (Nat.le_refl _) _
 have g1:W1.heap[w.heap.size]?=some (.cells (x.cells s).toArray 28 (0,0)):=by rw [hW1,heap_get,if_pos rfl]
 have HRT:=Lh (tright_any s x l z W1 hI (hs.later hb1 hb1.size) hf (hz.later hb1 hb1.size) hl hfr (hg.below hb1).gg)
 have HBY:=Lh (fun (h0:okF s l=0) (W:World) (hb:Below w.heap.size w W)=>byRule_any s x l z xs xa W hI (hs.later hb hb.size) hf (hz.later hb hb.size) hl hfr (hx.later hb hb.size) hxl hbl (hg.below hb) h0)
 have HK:=Lh (aI hb1 g1)
 have HW:=Lh hW1
 obtain ⟨ok,hok⟩:∃ ok,ok=okF s l:=⟨_,rfl⟩
 rw [<- hok] at HRT HBY
 have HR0:=Lh (fun (h:ok=0)=>(show R=byRuleF s l (xs.map Inx.ins) by rw [hR,instsF,<- hok,h,if_neg (by decide)]))
 have HR1:=Lh (fun (h:ok ≠ 0)=>(show R=([],ok) by rw [hR,instsF,<- hok,if_pos h]))
 simp only [SchA.cells,SlA.val] at HRT HBY HW g1 ⊢
 have d0:W1.cell? ⟨w.heap.size,0,none⟩=some (.slice x.slots.a s.slots.length x.slots.cap):=cH g1 rfl
 have d1:W1.cell? ⟨w.heap.size,1,none⟩=some (.slice x.rooms.a s.rooms.length x.rooms.cap):=cH g1 rfl
 have d2:W1.cell? ⟨w.heap.size,2,none⟩=some (.slice x.people.a s.people.length x.people.cap):=cH g1 rfl
 have d3:W1.cell? ⟨w.heap.size,3,none⟩=some (.slice x.groups.a s.groups.length x.groups.cap):=cH g1 rfl
 have d4:W1.cell? ⟨w.heap.size,4,none⟩=some (.slice x.lessons.a s.lessons.length x.lessons.cap):=cH g1 rfl
 clear hs hf hz hfr hx hbl hg hok hR hW1 hb1 g1 hI
 go_enter Tryz.func13,Tryz.ntmps13
 go_upto_region 1 with fail
 rw [<- HW.out]
 go_wp2_with fail
 refine HRT.out.mono ?_
 rintro e w3 ⟨rfl,hb3⟩
 have kS:=(hb3.block _ (gS HK.out.2).1).trans HK.out.2
 have H3:=Lh (HK.out.1.trans (hb3.mono HK.out.1.size))
 simp only [SchA.cells,SlA.val] at kS
 have e0:w3.cell? ⟨w.heap.size,0,none⟩=some (.slice x.slots.a s.slots.length x.slots.cap):=cH kS rfl
 have e1:w3.cell? ⟨w.heap.size,1,none⟩=some (.slice x.rooms.a s.rooms.length x.rooms.cap):=cH kS rfl
 have e2:w3.cell? ⟨w.heap.size,2,none⟩=some (.slice x.people.a s.people.length x.people.cap):=cH kS rfl
 have e3:w3.cell? ⟨w.heap.size,3,none⟩=some (.slice x.groups.a s.groups.length x.groups.cap):=cH kS rfl
 have e4:w3.cell? ⟨w.heap.size,4,none⟩=some (.slice x.lessons.a s.lessons.length x.lessons.cap):=cH kS rfl
 clear hb3 d0 d1 d2 d3 d4 kS HRT
 by_cases h0:ok=0
 ·subst h0
  have HSW:=Lh (HBY.out rfl w3 H3.out)
  have HRS:=Lh (HR0.out rfl)
  go_wp2_with fail
  refine HSW.out.mono ?_
  rintro e w4 ⟨v,rfl,hv,hb4⟩
  have H4:=Lh (aI (H3.out.trans (hb4.mono H3.out.size)) (TxtsF.wider (lo:=w3.heap.size) hv H3.out.size))
  clear hb4 hv e0 e1 e2 e3 e4
  rw [<- HRS.out] at H4 ⊢
  go_wp2_with fail
  go_ret2
  exact ⟨v,rfl,H4.out.2,H4.out.1⟩
 ·have h1:(ok==0)=false:=by simpa using h0
  have HRE:=Lh (HR1.out h0)
  go_wp2_with fail
  go_ret2
  exact ⟨_,by rw [HRE.out];rfl,by rw [HRE.out];exact TxtsF.nil _ _,H3.out⟩
end Go.Proofs.YtncnnbmeacpboaaGreatDoor
/- slices.IndexFunc and ContainsFunc over elements of one cell; tell.Why's closure odd. (written by tools/gen_ufind.py) -/
namespace Go.Proofs.YtncnnbmeacpboaaGreatDoor
open Go.RowKit Go.Chalk
attribute [local go_sem] Oper.semAt_some
theorem indexFunc_I (f:FuncId) (lb:Array Value) (p:Nat->Bool) (n:Nat) (c0:Nat->Value) (a:Option Addr) (b o cap:Nat) (w:World) (hsl:SlAt (·<w.heap.size) a b o n) (hc:∀ j,j<n->w.cell? ⟨b,o+j,none⟩=some (c0 j)) (hp:∀ j,j<n->∀ W,Below w.heap.size w W->Calls Tryz.prog f (#[c0 j]++lb) W (Answers W (p j)))
  (hent:∀ (args:Array Value) (w:World),(callFunc f args).run Tryz.prog w=.ok (.enter f args) w) (hmax:n<=2000000) :
  Calls Tryz.prog 57 #[.slice a n cap,.func (.func f) #[] lb] w fun e w'=>e=.returned (.int .i64 (findN p n))/\Below w.heap.size w w':=by
 have HC:=Lh hc
 have HP:=Lh hp
 clear hc hp
 go_enter Tryz.func57,Tryz.ntmps57
 go_wp2_with fail
 go_loopw [8,5] (fun i _ wr=>∃ j:Nat,j<=n/\i=.int .i64 j/\Hid (∀ i,i<j->p i=false)/\Below w.heap.size w wr) (fun i _ _=>n - (intOf i).toNat)
 case atStart=>exact ⟨0,Nat.zero_le _,rfl,Lh (fun i hi=>by omega),Below.refl _ _⟩
 case round =>
  obtain ⟨j,hj,rfl,HF,hb⟩:=hrel
  have hbs:=hb.size
  by_cases hlt:j<n
  ·obtain ⟨rfl,hbl⟩:=hsl (by omega)
   have q0:=HC.out j hlt
   have e0:=(hb.cell (p:=⟨b,o+j,none⟩) hbl).trans q0
   have HCL:=Lh (HP.out j hlt wr hb)
   have HN:=Lh (fun (h:p j=true)=>findN_some hlt h HF.out)
   have HM:=Lh (fun (h:p j=false) (i:Nat) (hi:i<j+1)=>(by
    by_cases hij:i=j
    ·rw [hij];exact h
    ·exact HF.out i (by omega):p i=false))
   clear q0
   go_wp2_with fail
   refine HCL.out.mono ?_
   rintro e w' ⟨rfl,hb'⟩
   have hbb:=hb.trans (hb'.mono hbs)
   generalize hr:p j=r at HN HM ⊢
   have HR:=Lh hr
   clear hr
   cases r
   ·go_wp2_with fail
    exact ⟨⟨j+1,by omega,by go_num,Lh (HM.out (by first | rfl | trivial)),hbb⟩,by simp [intOf];omega⟩
   ·go_wp2_with fail
    go_ret
    exact ⟨ret_int (HN.out (by first | rfl | trivial)).symm,hbb⟩
  ·go_wp2_with fail
   go_ret
   exact ⟨ret_int (findN_none (fun i hi=>HF.out i (by omega))).symm,hb⟩
theorem containsFunc_I (f:FuncId) (lb:Array Value) (p:Nat->Bool) (n:Nat) (c0:Nat->Value) (a:Option Addr) (b o cap:Nat) (w:World) (hsl:SlAt (·<w.heap.size) a b o n) (hc:∀ j,j<n->w.cell? ⟨b,o+j,none⟩=some (c0 j)) (hp:∀ j,j<n->∀ W,Below w.heap.size w W->Calls Tryz.prog f (#[c0 j]++lb) W (Answers W (p j)))
  (hent:∀ (args:Array Value) (w:World),(callFunc f args).run Tryz.prog w=.ok (.enter f args) w) (hmax:n<=2000000) :
  Calls Tryz.prog 33 #[.slice a n cap,.func (.func f) #[] lb] w fun e w'=>e=.returned (.bool ((List.range n).any p))/\Below w.heap.size w w':=by
 have HI:=Lh (indexFunc_I f lb p n c0 a b o cap w hsl hc hp hent hmax)
 clear hsl hc hp hent
 have HF:=Lh (findN_any p n)
 go_enter Tryz.func33,Tryz.ntmps33
 go_wp2_with fail
 refine HI.out.mono ?_
 rintro e w' ⟨rfl,hb⟩
 go_wp2_with fail
 go_ret
 exact ⟨ret_bool HF.out,hb⟩
theorem indexFunc_S (f:FuncId) (lb:Array Value) (p:Nat->Bool) (n:Nat) (c0:Nat->Value) (a:Option Addr) (b o cap:Nat) (w:World) (hsl:SlAt (·<w.heap.size) a b o n) (hc:∀ j,j<n->w.cell? ⟨b,o+j,none⟩=some (c0 j)) (hp:∀ j,j<n->∀ W,Below w.heap.size w W->Calls Tryz.prog f (#[c0 j]++lb) W (Answers W (p j)))
  (hent:∀ (args:Array Value) (w:World),(callFunc f args).run Tryz.prog w=.ok (.enter f args) w) (hmax:n<=2000000) :
  Calls Tryz.prog 58 #[.slice a n cap,.func (.func f) #[] lb] w fun e w'=>e=.returned (.int .i64 (findN p n))/\Below w.heap.size w w':=by
 have HC:=Lh hc
 have HP:=Lh hp
 clear hc hp
 go_enter Tryz.func58,Tryz.ntmps58
 go_wp2_with fail
 go_loopw [8,5] (fun i _ wr=>∃ j:Nat,j<=n/\i=.int .i64 j/\Hid (∀ i,i<j->p i=false)/\Below w.heap.size w wr) (fun i _ _=>n - (intOf i).toNat)
 case atStart=>exact ⟨0,Nat.zero_le _,rfl,Lh (fun i hi=>by omega),Below.refl _ _⟩
 case round =>
  obtain ⟨j,hj,rfl,HF,hb⟩:=hrel
  have hbs:=hb.size
  by_cases hlt:j<n
  ·obtain ⟨rfl,hbl⟩:=hsl (by omega)
   have q0:=HC.out j hlt
   have e0:=(hb.cell (p:=⟨b,o+j,none⟩) hbl).trans q0
   have HCL:=Lh (HP.out j hlt wr hb)
   have HN:=Lh (fun (h:p j=true)=>findN_some hlt h HF.out)
   have HM:=Lh (fun (h:p j=false) (i:Nat) (hi:i<j+1)=>(by
    by_cases hij:i=j
    ·rw [hij];exact h
    ·exact HF.out i (by omega):p i=false))
   clear q0
   go_wp2_with fail
   refine HCL.out.mono ?_
   rintro e w' ⟨rfl,hb'⟩
   have hbb:=hb.trans (hb'.mono hbs)
   generalize hr:p j=r at HN HM ⊢
   have HR:=Lh hr
   clear hr
   cases r
   ·go_wp2_with fail
    exact ⟨⟨j+1,by omega,by go_num,Lh (HM.out (by first | rfl | trivial)),hbb⟩,by simp [intOf];omega⟩
   ·go_wp2_with fail
    go_ret
    exact ⟨ret_int (HN.out (by first | rfl | trivial)).symm,hbb⟩
  ·go_wp2_with fail
   go_ret
   exact ⟨ret_int (findN_none (fun i hi=>HF.out i (by omega))).symm,hb⟩
theorem containsFunc_S (f:FuncId) (lb:Array Value) (p:Nat->Bool) (n:Nat) (c0:Nat->Value) (a:Option Addr) (b o cap:Nat) (w:World) (hsl:SlAt (·<w.heap.size) a b o n) (hc:∀ j,j<n->w.cell? ⟨b,o+j,none⟩=some (c0 j)) (hp:∀ j,j<n->∀ W,Below w.heap.size w W->Calls Tryz.prog f (#[c0 j]++lb) W (Answers W (p j)))
  (hent:∀ (args:Array Value) (w:World),(callFunc f args).run Tryz.prog w=.ok (.enter f args) w) (hmax:n<=2000000) :
  Calls Tryz.prog 35 #[.slice a n cap,.func (.func f) #[] lb] w fun e w'=>e=.returned (.bool ((List.range n).any p))/\Below w.heap.size w w':=by
 have HI:=Lh (indexFunc_S f lb p n c0 a b o cap w hsl hc hp hent hmax)
 clear hsl hc hp hent
 have HF:=Lh (findN_any p n)
 go_enter Tryz.func35,Tryz.ntmps35
 go_wp2_with fail
 refine HI.out.mono ?_
 rintro e w' ⟨rfl,hb⟩
 go_wp2_with fail
 go_ret
 exact ⟨ret_bool HF.out,hb⟩
theorem why11_any (k:Int) (n cap XB:Nat) (a:Option Addr) (w:World) (hx:w.cell? ⟨XB,0,none⟩=some (.slice a n cap)) :
  Calls Tryz.prog 34 #[.int .i64 k,.pointer (some ⟨XB,0,none⟩)] w (Answers w (decide (k<0)||decide ((n:Int)<=k))):=by
 obtain ⟨b,hb⟩:∃ b,b=(decide (k<0)||decide ((n:Int)<=k)):=⟨_,rfl⟩
 rw [<- hb]
 by_cases h1:k<0
 ·have hb2:b=true:=by rw [hb,decide_eq_true h1];rfl
  subst hb2
  clear hb
  go_enter Tryz.func34,Tryz.ntmps34
  go_wp2_with fail
  go_ret
  exact ⟨rfl,Below.refl _ _⟩
 ·have h1':decide (k<0)=false:=decide_eq_false h1
  by_cases h2:(n:Int)<=k
  ·have hb2:b=true:=by rw [hb,decide_eq_true h2,Bool.or_true]
   subst hb2
   clear hb h1
   go_enter Tryz.func34,Tryz.ntmps34
   go_wp2_with fail
   go_ret
   exact ⟨rfl,Below.refl _ _⟩
  ·have hb2:b=false:=by rw [hb,decide_eq_false h2,h1'];rfl
   have h2':decide ((n:Int)<=k)=false:=decide_eq_false h2
   subst hb2
   clear hb h1 h2
   go_enter Tryz.func34,Tryz.ntmps34
   go_wp2_with fail
   go_ret
   exact ⟨rfl,Below.refl _ _⟩
theorem why1_any (l:List Int) (y:SlA) (n cap XB:Nat) (a:Option Addr) (w:World) (hy:SlIn w (·<w.heap.size) (dints l) y) (hl:l.length<=2000000) (hx:w.cell? ⟨XB,0,none⟩=some (.slice a n cap)) :
  Calls Tryz.prog 32 #[.slice y.a l.length y.cap,.pointer (some ⟨XB,0,none⟩)] w (Answers w (l.any (fun k=>decide (k<0)||decide ((n:Int)<=k)))):=by
 obtain ⟨z1,_,_,_,z5⟩:=hy.ints
 have HCF:=Lh (containsFunc_I 34 #[.pointer (some ⟨XB,0,none⟩)] (fun j=>(l[j]?.map (fun k=>decide (k<0)||decide ((n:Int)<=k))).getD false) l.length (fun j=>.int .i64 (l[j]?.getD 0)) y.a y.b y.o y.cap w z1 (fun j hj=>by rw [List.getElem?_eq_getElem hj];exact z5 j hj)
  (fun j hj W hW=>by rw [List.getElem?_eq_getElem hj];exact why11_any l[j] n cap XB a W ((hW.cell (World.block_lt_of_cell? w _ hx)).trans hx)) (fun _ _=>enters_of Tryz.func34 (by kernel_rfl) rfl _ _) hl)
 rw [any_range] at HCF
 have hmf:∀ (fn:Fn) (first cap:Array Value) (w:World),(Instr.makeFunc fn first cap).run Tryz.prog w=.ok (.func fn first cap) w:=fun _ _ _ _=>rfl
 generalize l.any (fun k=>decide (k<0)||decide ((n:Int)<=k))=r at HCF ⊢
 clear hy hx z1 z5
 go_enter Tryz.func32,Tryz.ntmps32
 go_wp2_with fail
 refine HCF.out.mono ?_
 rintro e w2 ⟨rfl,hb⟩
 go_wp2_with fail
 go_ret
 exact ⟨rfl,hb⟩
def dsets (l:List (List Int)):List D:=l.map (fun p=>.sl (dints p))
theorem dsets_at {w:World} {F:Nat->Prop} {l:List (List Int)} {x:SlA} (h:SlIn w F (dsets l) x) (i:Nat) (hi:i<l.length):∃ y:SlA,SlIn w F (dints l[i]) y/\w.cell? ⟨x.b,x.o+i,none⟩=some (y.val l[i].length):=by
 obtain ⟨cs,h1,h2⟩:=h.row.get (sz:=1) (fun d hd=>by obtain ⟨t,_,rfl⟩:=List.mem_map.1 hd;rfl) i (by simpa [dsets] using hi)
 have e:(dsets l)[i]'(by simpa [dsets] using hi)=.sl (dints l[i]):=by simp [dsets]
 rw [e] at h1
 obtain ⟨y,rfl,hy⟩:=DAt.sl_iff.1 h1
 rw [dints_length] at h2
 rw [Nat.mul_one] at h2
 exact ⟨y,hy,by simpa using h2 0 (by simp)⟩
theorem whyodd_any (l:List (List Int)) (x:SlA) (X:List Ins) (cap XB:Nat) (a:Option Addr) (w:World) (hx:SlIn w (·<w.heap.size) (dsets l) x) (hl:l.length<=2000000) (hll:∀ p∈l,p.length<=2000000) (hX:w.cell? ⟨XB,0,none⟩=some (.slice a X.length cap)) :
  Calls Tryz.prog 35 #[.slice x.a l.length x.cap,.func (.func 32) #[] #[.pointer (some ⟨XB,0,none⟩)]] w fun e w'=>e=.returned (.bool (l.any (oddSet X)))/\Below w.heap.size w w':=by
 obtain ⟨f,hf⟩:=Classical.axiomOfChoice (r:=fun (j:Nat) (y:SlA)=>∀ hj:j<l.length,SlIn w (·<w.heap.size) (dints l[j]) y/\w.cell? ⟨x.b,x.o+j,none⟩=some (y.val l[j].length))
  (fun j=>by
   by_cases hj:j<l.length
   ·obtain ⟨y,h1,h2⟩:=dsets_at hx j hj;exact ⟨y,fun _=>⟨h1,h2⟩⟩
   ·exact ⟨⟨none,0,0,0⟩,fun h=>(hj h).elim⟩)
 rw [<- any_range]
 refine containsFunc_S 32 #[.pointer (some ⟨XB,0,none⟩)] (fun j=>(l[j]?.map (oddSet X)).getD false) l.length (fun j=>(f j).val ((l[j]?.map List.length).getD 0)) x.a x.b x.o x.cap w (by have:=hx.at_;simpa [dsets] using this) ?_ ?_ (fun _ _=>enters_of Tryz.func32 (by kernel_rfl) rfl _ _) hl
 ·intro j hj
  rw [List.getElem?_eq_getElem hj]
  exact (hf j hj).2
 ·intro j hj W hW
  rw [List.getElem?_eq_getElem hj]
  exact why1_any l[j] (f j) X.length cap XB a W ((hf j hj).1.later hW hW.size) (hll _ (List.getElem_mem hj)) ((hW.cell (World.block_lt_of_cell? w _ hX)).trans hX)
end Go.Proofs.YtncnnbmeacpboaaGreatDoor
/- tell.Why's closure put. (written by tools/gen_uw2.py) -/
namespace Go.Chalk
open Go.RowKit
def pk (xs:List Inx) (p:List Int):List Inx:=p.filterMap (fun k=>xs[k.toNat]?)
theorem pk_succ {xs:List Inx} {p:List Int} {i:Nat} (h:i<p.length) {k:Nat} (hk:p[i]=(k:Int)) (hx:k<xs.length):pk xs (p.take (i+1))=pk xs (p.take i)++[xs[k]]:=by
 unfold pk
 rw [List.take_succ_eq_append_getElem h,List.filterMap_append,hk]
 simp [hx]
theorem inx_widths:∀ l:List Inx,widths (l.map Inx.toD)=l.length*6
 | []=>rfl
 | x :: r=>by simp only [List.map_cons,widths,Inx.width,List.length_cons];rw [inx_widths r];omega
theorem pk_len (xs:List Inx) (p:List Int):(pk xs p).length<=p.length:=List.length_filterMap_le _ _
theorem pk_mem {xs:List Inx} {p:List Int} {i:Inx} (h:i∈pk xs p):i∈xs:=by
 obtain ⟨k,_,hk⟩:=List.mem_filterMap.1 h
 exact List.mem_of_getElem? hk
theorem pk_ins (xs:List Inx) (p:List Int):(pk xs p).map Inx.ins=pickF (xs.map Inx.ins) p:=by
 unfold pk pickF
 rw [List.map_filterMap]
 congr 1
 funext k
 rw [List.getElem?_map]
def setsA (s:Schl) (l:List Rul) (X:List Ins) (ahead:Bs) (q:List (List Int)):List Bs:=q.flatMap (fun p=>ahead :: (byRuleF s l (pickF X p)).1)
theorem setsA_succ {s:Schl} {l:List Rul} {X:List Ins} {ahead:Bs} {q:List (List Int)} {j:Nat} (h:j<q.length):setsA s l X ahead (q.take (j+1))=setsA s l X ahead (q.take j)++(ahead :: (byRuleF s l (pickF X q[j])).1):=by
 unfold setsA
 rw [List.take_succ_eq_append_getElem h,List.flatMap_append];simp
theorem byRuleF_len {s:Schl} {l:List Rul} {Y:List Ins} (hl:l.length<=1000) (h4:Y.length<=1000):(byRuleF s l Y).1.length<=1001000:=by
 unfold byRuleF
 split
 ·simp
 ·have h3:=byRuleGo_len s l Y l 0
  exact Nat.le_trans h3 (Nat.le_trans (Nat.mul_le_mul hl (show Y.length+1<=1001 by omega)) (by decide))
theorem setsA_len {s:Schl} {l:List Rul} {X:List Ins} {ahead:Bs} (hl:l.length<=1000):∀ (q:List (List Int)),(∀ p∈q,p.length<=1000)->(setsA s l X ahead q).length<=q.length*1001001
 | [],_=>by simp [setsA]
 | p :: q,h=>by
  have h1:=setsA_len (s:=s) (X:=X) (ahead:=ahead) hl q (fun p hp=>h p (by simp [hp]))
  have h2:(byRuleF s l (pickF X p)).1.length<=1001000:=by
   unfold byRuleF
   split
   ·simp
   ·have h3:=byRuleGo_len s l (pickF X p) l 0
    have h4:(pickF X p).length<=1000:=Nat.le_trans (List.length_filterMap_le _ _) (h p (by simp))
    exact Nat.le_trans h3 (Nat.le_trans (Nat.mul_le_mul hl (show (pickF X p).length+1<=1001 by omega)) (by decide))
  have e:setsA s l X ahead (p :: q)=(ahead :: (byRuleF s l (pickF X p)).1)++setsA s l X ahead q:=by simp [setsA]
  rw [e,List.length_append,List.length_cons,List.length_cons,Nat.add_mul]
  omega
theorem setsGo_err {s:Schl} {l:List Rul} {X:List Ins} {ahead:Bs} {q:List (List Int)} {j:Nat} (h:j<q.length) (hz:(setsGo s l X ahead q).2=(setsGo s l X ahead (q.drop j)).2) (he:(byRuleF s l (pickF X q[j])).2 ≠ 0):(setsGo s l X ahead q).2=(byRuleF s l (pickF X q[j])).2:=by
 rw [hz,List.drop_eq_getElem_cons h,setsGo,if_pos he]
theorem setsGo_ok {s:Schl} {l:List Rul} {X:List Ins} {ahead:Bs} {q:List (List Int)} {j:Nat} (h:j<q.length) (hz:(setsGo s l X ahead q).2=(setsGo s l X ahead (q.drop j)).2) (hw:(setsGo s l X ahead q).2=0->(setsGo s l X ahead q).1=setsA s l X ahead (q.take j)++(setsGo s l X ahead (q.drop j)).1) (he:(byRuleF s l (pickF X q[j])).2=0) :
  (setsGo s l X ahead q).2=(setsGo s l X ahead (q.drop (j+1))).2/\((setsGo s l X ahead q).2=0->(setsGo s l X ahead q).1=setsA s l X ahead (q.take (j+1))++(setsGo s l X ahead (q.drop (j+1))).1):=by
 have e2:(setsGo s l X ahead (q.drop j)).2=(setsGo s l X ahead (q.drop (j+1))).2:=by
  rw [List.drop_eq_getElem_cons h,setsGo,if_neg (by simpa using he)]
  by_cases h3:(setsGo s l X ahead (q.drop (j+1))).2=0
  ·rw [if_neg (by simpa using h3),h3]
  ·rw [if_pos h3]
 refine ⟨hz.trans e2,fun h0=>?_⟩
 have h3:(setsGo s l X ahead (q.drop (j+1))).2=0:=by rw [<- e2,<- hz];exact h0
 rw [hw h0,setsA_succ h,List.append_assoc,List.drop_eq_getElem_cons h,setsGo,if_neg (by simpa using he),if_neg (by simpa using h3)]
end Go.Chalk
namespace Go.Proofs.YtncnnbmeacpboaaGreatDoor
open Go.RowKit Go.Chalk
attribute [local go_sem] Oper.semAt_some
theorem infoInst7:(Tryz.prog.info? 35).map (fun i=>(i.zero,i.size,i.bytes))=some (some (.agg #[.int .i64 0,.slice none 0 0,.int .i64 0,.int .i64 0,.int .i64 0,.slice none 0 0]),6,80):=by kernel_rfl
structure WhyE (w:World) (BS lo:Nat) (s:Schl) (x:SchA) (l:List Rul) (z:SlA) (xs:List Inx) (xa:SlA) (XB SB LB:Nat):Prop where
 sch:SchIn w (·<BS) s x
 rul:SlIn w (·<BS) (l.map Rul.toD) z
 ins:SlIn w (·<BS) (xs.map Inx.toD) xa
 bx:w.heap[XB]?=some (.cells #[.slice xa.a xs.length xa.cap] 38 (0,0))
 bs:w.heap[SB]?=some (.cells #[.slice x.slots.a s.slots.length x.slots.cap,.slice x.rooms.a s.rooms.length x.rooms.cap,.slice x.people.a s.people.length x.people.cap,.slice x.groups.a s.groups.length x.groups.cap,.slice x.lessons.a s.lessons.length x.lessons.cap] 28 (0,0))
 bl:w.heap[LB]?=some (.cells #[.slice z.a l.length z.cap] 29 (0,0))
 lt:BS<=XB/\BS<=SB/\BS<=LB/\XB<lo/\SB<lo/\LB<lo/\lo<=w.heap.size
theorem WhyE.kept {w w':World} {BS lo OB:Nat} {s:Schl} {x:SchA} {l:List Rul} {z:SlA} {xs:List Inx} {xa:SlA} {XB SB LB:Nat} (h:WhyE w BS lo s x l z xs xa XB SB LB) (hm:Chalk.Mod (fun k=>k=OB∨lo<=k) w w') (h1:BS<=OB) (h2:XB ≠ OB) (h3:SB ≠ OB) (h4:LB ≠ OB):WhyE w' BS lo s x l z xs xa XB SB LB:=by
 obtain ⟨a,b,c,d,e,f,g⟩:=h
 have hA:Agree (·<BS) w w':=hm.agree (fun k hk=>⟨by omega,by omega⟩)
 exact ⟨a.agree hA,b.agree hA,c.agree hA,heap_kept d hm (by omega),heap_kept e hm (by omega),heap_kept f hm (by omega),by have:=hm.size;omega⟩
def WhP (w:World) (OB lo:Nat) (outs:List Bs) (r:List Bs×Int) (e:Ending) (w':World):Prop :=
 e=.returned (.int .i64 r.2)/\Chalk.Mod (fun k=>k=OB∨lo<=k) w w'/\(r.2=0->∃ v,w'.heap[OB]?=some (.cells #[v] 47 (0,0))/\OwnN w' lo (fun _=>False) 9 1 v ((outs++r.1).map dstr))
theorem why2_any (w0:World) (BS lo:Nat) (s:Schl) (x:SchA) (l:List Rul) (z:SlA) (xs:List Inx) (xa:SlA) (XB SB LB OB:Nat) (ahead:Bs) (sets:List (List Int)) (sa:SlA) (outs:List Bs) (v0:Value) (w:World) (hI:ItoaAt) (hf:SchFit s) (hl:l.length<=1000) (hfr:∀ r∈l,RulFit r) (hbl:∀ i∈xs,i.binds.length<=2000000) (hxl:xs.length<=1000000)
  (hg:GS w0) (h0:Below w0.heap.size w0 w) (hok:okF s l=0) (hE:WhyE w BS lo s x l z xs xa XB SB LB) (hOB:BS<=OB/\OB<lo/\XB ≠ OB/\SB ≠ OB/\LB ≠ OB/\w0.heap.size<=BS) (ho:w.heap[OB]?=some (.cells #[v0] 47 (0,0))) (hown:OwnN w lo (fun _=>False) 9 1 v0 (outs.map dstr)) (hol:outs.length<=4000000000)
  (hs:SlIn w (·<BS) (dsets sets) sa) (hsl:sets.length<=1000) (hpl:∀ p∈sets,p.length<=1000) (hodd:sets.any (oddSet (xs.map Inx.ins))=false) (hah:ahead.length<=1000) :
  Calls Tryz.prog 36 #[.string ⟨ahead.toArray⟩,.slice sa.a sets.length sa.cap,.pointer (some ⟨XB,0,none⟩),.pointer (some ⟨SB,0,none⟩),.pointer (some ⟨LB,0,none⟩),.pointer (some ⟨OB,0,none⟩)] w (WhP w OB lo outs (setsGo s l (xs.map Inx.ins) ahead sets)):=by
 obtain ⟨R,hR⟩:∃ R,R=setsGo s l (xs.map Inx.ins) ahead sets:=⟨_,rfl⟩
 rw [<- hR]
 obtain ⟨X,hX⟩:∃ X,X=xs.map Inx.ins:=⟨_,rfl⟩
 rw [<- hX] at hR hodd
 have HX:=Lh hX
 have HR:=Lh hR
 have HBY:=Lh (fun (p:List Inx) (pa:SlA) (W:World) (hb:Below w0.heap.size w0 W) (h1:SchIn W (·<W.heap.size) s x) (h2:SlIn W (·<W.heap.size) (l.map Rul.toD) z) (h3:SlIn W (·<W.heap.size) (p.map Inx.toD) pa) (h4:p.length<=1000000) (h5:∀ i∈p,i.binds.length<=2000000)=>byRule_any s x l z p pa W hI h1 hf h2 (by omega) hfr h3 h4 h5 (hg.below hb) hok)
 have HE:=Lh hE
 have HOBL:=Lh hOB
 have HS:=Lh hs
 have H0:=Lh (aI h0 (aI hl (aI hol (aI hbl (aI hpl hah)))))
 have HODD:Hid (∀ (j:Nat) (hj:j<sets.length) (i:Nat) (hi:i<(sets[j]).length),0<=(sets[j])[i]/\(sets[j])[i]<(xs.length:Int)):=Lh (fun j hj i hi=>by
  have h1:=List.any_eq_false.1 hodd _ (List.getElem_mem hj)
  unfold oddSet at h1
  have h2:=List.any_eq_false.1 (Bool.eq_false_iff.2 h1) _ (List.getElem_mem hi)
  rw [hX,List.length_map] at h2
  simp at h2
  exact ⟨h2.1,h2.2⟩)
 have HOUT:=Lh (aI ho hown)
 have hXL:Hid (X.length=xs.length):=Lh (by rw [hX,List.length_map])
 clear hI hf hfr hbl hg h0 hok hE hOB ho hown hs hpl hodd hR hX hol hah
 obtain ⟨i0,hi,hz0,hz1,hz2⟩:=info_parts infoStr
 obtain ⟨i1,hi1,hy0,hy1,hy2⟩:=info_parts infoInst7
 go_enter Tryz.func36,Tryz.ntmps36
 go_wp2_with fail
 go_loopw [18] (fun i wr=>∃ j:Nat,j<=sets.length/\i=.int .i64 j/\Hid (Chalk.Mod (fun k=>k=OB∨lo<=k) w wr)/\Hid (∃ v,wr.heap[OB]?=some (.cells #[v] 47 (0,0))/\OwnN wr lo (fun _=>False) 9 1 v ((outs++setsA s l X ahead (sets.take j)).map dstr))/\Hid ((setsGo s l X ahead sets).2=(setsGo s l X ahead (sets.drop j)).2)/\Hid ((setsGo s l X ahead sets).2=0->(setsGo s l X ahead sets).1=setsA s l X ahead (sets.take j)++(setsGo s l X ahead (sets.drop j)).1)) (fun i _=>sets.length - (intOf i).toNat)
 case atStart=>exact ⟨0,Nat.zero_le _,rfl,Lh (Chalk.Mod.refl _ _),Lh ⟨v0,HOUT.out.1,by rw [List.take_zero];simpa [setsA] using HOUT.out.2⟩,Lh rfl,Lh (fun _=>rfl)⟩
 case round =>
  obtain ⟨j,hj,rfl,HM,HO,HZ,HW⟩:=hrel
  have hE:=HE.out.kept HM.out HOBL.out.1 HOBL.out.2.2.1 HOBL.out.2.2.2.1 HOBL.out.2.2.2.2.1
  by_cases hlt:j<sets.length
  ·obtain ⟨y,hy,hyc⟩:=dsets_at HS.out j hlt
   obtain ⟨hsa,hsb⟩:=HS.out.at_ (by simp [dsets];omega)
   have hA:Agree (·<BS) w wr:=HM.out.agree (fun k hk=>⟨by have:=HE.out.lt;omega,by have h1:=HE.out.lt;have h2:=HOBL.out;omega⟩)
   have hyw:=hy.agree hA
   have hyc':wr.cell? ⟨sa.b,sa.o+j,none⟩=some (.slice y.a (sets[j]).length y.cap):=(cell_agree hA (a:=⟨sa.b,sa.o+j,none⟩) hsb).trans hyc
   have HEW:=Lh hE
   have HPL:=Lh (H0.out.2.2.2.2.1 _ (List.getElem_mem hlt))
   have HOD:=Lh (HODD.out j hlt)
   have HSE:=Lh (fun (h:(byRuleF s l (pickF X sets[j])).2 ≠ 0)=>setsGo_err hlt HZ.out h)
   have HSO:=Lh (fun (h:(byRuleF s l (pickF X sets[j])).2=0)=>setsGo_ok hlt HZ.out HW.out h)
   have HSA:=Lh (setsA_succ (s:=s) (l:=l) (X:=X) (ahead:=ahead) hlt)
   have HSL:=Lh (setsA_len (s:=s) (X:=X) (ahead:=ahead) H0.out.2.1 (sets.take j) (fun p hp=>H0.out.2.2.2.2.1 p (List.mem_of_mem_take hp)))
   have HYW:=Lh hyw
   rw [hsa]
   clear hy hyc hsa hsb hA hyw hE
   generalize sets[j]=p at hyc' HPL HOD HSE HSO HSA HYW
   obtain ⟨wo,rfl⟩:∃ wo,wo=wr:=⟨wr,rfl⟩
   go_wp2_with fail
   clear hyc'
   have hpl:p.length<=1000:=HPL.out
   go_loopw [11,24] (fun pv i wr=>∃ q:Nat,q<=p.length/\i=.int .i64 q/\Hid (Below wo.heap.size wo wr)/\Hid (OwnN wr wo.heap.size (·<BS) 35 6 pv ((pk xs (p.take q)).map Inx.toD))) (fun _ i _=>p.length - (intOf i).toNat)
   case atStart=>exact ⟨0,Nat.zero_le _,rfl,Lh (Below.refl _ _),Lh (OwnN.nil _ _ _ _ _ (fun k hk=>by have:=HEW.out.lt;omega))⟩
   case round =>
    obtain ⟨q,hq,rfl,HB,HP⟩:=hrel
    obtain ⟨oa,ocap,hof⟩:=HP.out.form
    subst hof
    rw [List.length_map] at HP ⊢
    have hpk:(pk xs (p.take q)).length<=1000:=Nat.le_trans (pk_len _ _) (by rw [List.length_take];omega)
    obtain ⟨nn,hnn⟩:∃ nn,nn=(pk xs (p.take q)).length:=⟨_,rfl⟩
    rw [<- hnn] at HP hpk ⊢
    have HNN:=Lh (aI hnn hpk)
    clear hnn
    have hbo:=HEW.out.lt
    by_cases hlt2:q<p.length
    ·obtain ⟨z1,_,_,_,z5⟩:=HYW.out.ints
     obtain ⟨hya,hyb⟩:=z1 (by omega)
     have b0:wr.cell? ⟨y.b,y.o+q,none⟩=some (.int .i64 p[q]):=(HB.out.cell (p:=⟨y.b,y.o+q,none⟩) (show y.b<wo.heap.size by omega)).trans (z5 q hlt2)
     obtain ⟨hp0,hp1⟩:=HOD.out q hlt2
     obtain ⟨k,hk⟩:∃ k:Nat,p[q]=(k:Int):=⟨(p[q]).toNat,by omega⟩
     have hkx:k<xs.length:=by omega
     have hbx:=(HB.out.block _ (gS HEW.out.bx).1).trans HEW.out.bx
     obtain ⟨yi,hyi,hyc⟩:=HEW.out.ins.inx k hkx
     obtain ⟨hxa,hxb⟩:=HEW.out.ins.at_ (by rw [List.length_map];omega)
     have hAw:Agree (·<BS) wo wr:=(agree_of_below HB.out).mono (fun k hk=>by omega)
     have hcw:=hyc.agree hAw hxb
     obtain ⟨q0,q1,q2,q3,q4,q5⟩:=CellsAt.six hcw
     have HD:=Lh (show DsAt wr (·<BS) [(xs[k]).toD] (yi.cells xs[k]) by rw [DsAt];exact ⟨_,[],(List.append_nil _).symm,InxIn.iff.2 ⟨yi,rfl,hyi.agree hAw⟩,by rw [DsAt]⟩)
     have HPK:=Lh (pk_succ (xs:=xs) hlt2 hk hkx)
     have x0:wr.cell? ⟨XB,0,none⟩=some (.slice (some ⟨xa.b,xa.o,none⟩) xs.length xa.cap):=by rw [<- hxa];exact cH hbx rfl
     have k1:(k:Int)<(xs.length:Int):=by omega
     rw [hk] at b0
     rw [hya]
     clear z1 z5 hya hyb hp0 hp1 hbx hyi hyc hxa hxb hAw hcw hk hbo
     generalize xs[k]=ik at q0 q1 q2 q3 q4 q5 HD HPK
     clear hkx
     obtain ⟨rule,bi,tr⟩:=ik
     simp only [InxA.cells,SlA.val] at q0 q1 q2 q3 q4 q5 HD
     go_wp2_with (at_builtin;go_must (refine wpList_append_oneO (B:=wr.heap.size) rfl rfl _ _ 38 rfl 35 i1 _ 6 80 Tryz.underlying38 hi1 hy0 hy1 hy2 rfl (by decide) (.slice oa nn ocap) ((pk xs (p.take q)).map Inx.toD) (Inx.toD ⟨rule,bi,tr⟩) [.int .i64 rule,.slice yi.b.a bi.length yi.b.cap,.int .i64 yi.k0,.int .i64 yi.k1,.int .i64 yi.k2,.slice yi.a yi.n yi.cap] 35 rfl rfl HP.out HD.out HB.out.size (Inx.width _) (by rw [List.length_map,<- HNN.out.1];have:=HNN.out.2;unfold maxLen;omega) (by rw [List.length_map,<- HNN.out.1];have:=HNN.out.2;omega) ?_);intro ao cap w5 hon hb5;rw [List.length_map,<- HNN.out.1] at hon ⊢;have HON:=Lh (aI hon (HB.out.trans hb5));clear hon hb5)
     refine ⟨⟨q+1,by omega,by go_num,Lh HON.out.2,Lh ?_⟩,by simp [intOf];omega⟩
     rw [HPK.out,List.map_append];exact HON.out.1
    ·have hql:q=p.length:=by omega
     subst hql
     rw [List.take_length] at HP HNN
     obtain ⟨w9,rfl⟩:∃ w9,w9=wr:=⟨wr,rfl⟩
     obtain ⟨pa,hpa,hps⟩:=HP.out.onto.sl (by rw [inx_widths];simp)
     rw [SlA.val,List.length_map,<- HNN.out.1] at hpa
     have hbo:=HEW.out.lt
     have hO:=HOBL.out
     have hws:=HM.out.size
     have hb9:Below w0.heap.size w0 w9:=H0.out.1.trans ((HM.out.below (by have:=H0.out.1.size;omega) (fun k hk=>by omega)).trans (HB.out.mono (by have:=H0.out.1.size;omega)))
     have hA9:Agree (·<BS) wo w9:=(agree_of_below HB.out).mono (fun k hk=>by omega)
     have hlt9:=HB.out.size
     have hcall:=HBY.out (pk xs p) pa w9 hb9 ((HEW.out.sch.agree hA9).mono (fun k hk=>by omega)) ((HEW.out.rul.agree hA9).mono (fun k hk=>by omega)) hps (by rw [<- HNN.out.1];omega) (fun i hi=>H0.out.2.2.2.1 i (pk_mem hi))
     rw [pk_ins,<- HX.out,<- HNN.out.1,<- hpa] at hcall
     have HCALL:=Lh hcall
     have kS:=(HB.out.block _ (gS HEW.out.bs).1).trans HEW.out.bs
     have kL:=(HB.out.block _ (gS HEW.out.bl).1).trans HEW.out.bl
     have d0:w9.cell? ⟨SB,0,none⟩=some (.slice x.slots.a s.slots.length x.slots.cap):=cH kS rfl
     have d1:w9.cell? ⟨SB,1,none⟩=some (.slice x.rooms.a s.rooms.length x.rooms.cap):=cH kS rfl
     have d2:w9.cell? ⟨SB,2,none⟩=some (.slice x.people.a s.people.length x.people.cap):=cH kS rfl
     have d3:w9.cell? ⟨SB,3,none⟩=some (.slice x.groups.a s.groups.length x.groups.cap):=cH kS rfl
     have d4:w9.cell? ⟨SB,4,none⟩=some (.slice x.lessons.a s.lessons.length x.lessons.cap):=cH kS rfl
     have l0:w9.cell? ⟨LB,0,none⟩=some (.slice z.a l.length z.cap):=cH kL rfl
     simp only [SchA.cells,SlA.val] at HCALL
     have HSZ:=Lh (aI hbo (aI hO (aI hws hlt9)))
     clear hpa hps hb9 hA9 hcall kS kL hbo hO hws hlt9 hlt2 hq HP
     go_wp2_with fail
     refine HCALL.out.mono ?_
     rintro e w10 ⟨v2,rfl,hv2,hb10⟩
     have H10:=Lh (aI hv2 hb10)
     have HBL:=Lh (byRuleF_len (s:=s) (Y:=pickF X p) H0.out.2.1 (Nat.le_trans (List.length_filterMap_le _ _) HPL.out))
     obtain ⟨BF,hBF⟩:∃ BF,BF=byRuleF s l (pickF X p):=⟨_,rfl⟩
     rw [<- hBF] at H10 HSE HSO HSA HBL ⊢
     clear d0 d1 d2 d3 d4 l0 hv2 hb10 hBF HCALL
     obtain ⟨ls,er⟩:=BF
     simp only at H10 HSE HSO HSA HBL ⊢
     have HM10:=Lh ((HM.out.then_below (HB.out) (by have:=HSZ.out;omega)).then_below H10.out.2 (by have:=HSZ.out;omega))
     by_cases her:er=0
     rotate_left
     ·have her2:(er==0)=false:=by simpa using her
      have HRE:=Lh (show R.2=er by rw [HR.out];exact HSE.out her)
      go_wp2_with fail
      go_ret
      exact ⟨by rw [HRE.out];rfl,HM10.out,fun h=>absurd (HRE.out.symm.trans h) her⟩
     subst her
     obtain ⟨HZ2,HW2⟩:=HSO.out rfl
     have HZ2:=Lh HZ2
     have HW2:=Lh HW2
     obtain ⟨v,hv,r,hr1,hr2⟩:=HO.out
     have hrl:∀ k,r=some k->lo<=k/\k<wo.heap.size:=fun k hk=>⟨hr2 k hk,hr1.row_lt hk⟩
     obtain ⟨va,vcap,hvf⟩:=hr1.form
     rw [List.length_map] at hvf
     obtain ⟨OL,hOL⟩:∃ OL,OL=outs++setsA s l X ahead (sets.take j):=⟨_,rfl⟩
     rw [<- hOL] at hr1 hvf
     have holl:OL.length<=5001001000:=by rw [hOL,List.length_append];have h1:=HSL.out;rw [List.length_take] at h1;have h2:min j sets.length*1001001<=1000*1001001:=Nat.mul_le_mul_right _ (by omega);have h3:=H0.out.2.2.1;omega
     obtain ⟨on,hon⟩:∃ on,on=OL.length:=⟨_,rfl⟩
     rw [<- hon] at hvf holl
     subst hvf
     have hlsl:ls.length<=1001000:=HBL.out
     have hsz:=HSZ.out
     have hv10:w10.heap[OB]?=some (.cells #[.slice va on vcap] 47 (0,0)):=(H10.out.2.block OB (by omega)).trans ((HB.out.block OB (by omega)).trans hv)
     have hro:Chalk.Own w10 (fun _=>False) 9 1 (.slice va on vcap) r (OL.map dstr):=(hr1.below HB.out).below H10.out.2
     have hlit:Chalk.Own (w10.alloc (.cells #[.string ⟨ahead.toArray⟩] 9)) (fun _=>False) 9 1 (.slice (some ⟨w10.heap.size,0,none⟩) 1 1) (some w10.heap.size) [dstr ahead]:=Chalk.Own.lit (w:=w10) (n:=1) (cs:=[.string ⟨ahead.toArray⟩]) rfl (by unfold maxLen;omega) rfl (dstr_at (by have:=H0.out.2.2.2.2.2;unfold maxLen;omega)) (fun _ h=>h.elim)
     have hsr:=hlit.read (G:=fun k=>k=w10.heap.size) (fun _ h=>h.elim) (fun k hk=>(Option.some.inj hk).symm) rfl
     have hs10:=H10.out.2.size
     have hsw:=(hro.below (below_new w10 (.cells #[.string ⟨ahead.toArray⟩] 9))).widen (G:=fun k=>k=w10.heap.size) (fun _ h=>h.elim) (fun k hk e=>by have h1:=hrl k hk;omega) (fun k hk=>by simp;omega)
     have c0:w10.cell? ⟨OB,0,none⟩=some (.slice va on vcap):=cH hv10 rfl
     obtain ⟨x2,hx2,hxs⟩:=H10.out.1
     subst hx2
     have hol2:on+1+ls.length<=5003000000:=by omega
     have HA:=Lh (aI hsw (aI hsr (aI hrl (aI hv10 (aI hxs (aI hon (aI hs10 hol2)))))))
     have HOL:=Lh hOL
     have HFLA:Hid (∀ (w11:World) (ao:Option Addr) (cap:Nat) (r4:Option Nat),Chalk.Own w11 (fun k=>k=w10.heap.size) 9 1 (.slice ao (on+1) cap) r4 (OL.map dstr++[dstr ahead])->Chalk.Mod (fun k=>r=some k) (w10.alloc (.cells #[.string ⟨ahead.toArray⟩] 9)) w11->(r4=r∨r4=some (w10.alloc (.cells #[.string ⟨ahead.toArray⟩] 9)).heap.size) ->
       Chalk.Own w11 (fun k=>w9.heap.size<=k/\k<w10.heap.size) 9 1 (.slice ao (on+1) cap) r4 (OL.map dstr++[dstr ahead])/\DAt w11 (fun k=>w9.heap.size<=k/\k<w10.heap.size) (.sl (ls.map dstr)) [.slice x2.a ls.length x2.cap]/\(∀ k,r4=some k->lo<=k)/\w11.heap[OB]?=some (.cells #[.slice va on vcap] 47 (0,0))/\Chalk.Mod (fun k=>r=some k) w10 w11):=Lh (fun w11 ao cap r4 h1 h2 h3=>by
      have hm:Chalk.Mod (fun k=>r=some k) w10 w11:=((Chalk.Mod.refl (fun k=>r=some k) w10).alloc _).trans h2 (fun _ _ h=>h)
      have hb:=HB.out.size
      refine ⟨h1.flat (by rw [flats_append,flats_map dstr_flat];rfl) (fun k hk e=>?_) (fun k hk=>by have:=hm.size;omega),?_,fun k hk=>?_,heap_kept hv10 hm (fun e=>by have:=hrl _ e;have:=HSZ.out;omega),hm⟩
      ·rcases h3 with h | h
       ·have:=hrl k (h ▸ hk);omega
       ·rw [h] at hk;have:=Option.some.inj hk;simp at this;omega
      ·have:=(hxs.agree (hm.agree (fun k hk=>⟨hk.2,fun e=>by have:=hrl k e;omega⟩))).d
       rw [SlA.val,List.length_map] at this
       exact this
      ·rcases h3 with h | h
       ·exact (hrl k (h ▸ hk)).1
       ·rw [h] at hk;have:=Option.some.inj hk;simp at this;have:=HSZ.out;omega)
     clear hv hr1 hr2 hrl hOL holl hon hlsl hsz hv10 hro hlit hsr hs10 hsw hxs hol2
     go_wp2_with (first | (at_builtin;refine wpList_append_src _ (by rfl) _ _ _ rfl 9 i0 _ 1 16 Tryz.underlying47 hi hz0 hz1 hz2 rfl (by decide) (.slice va on vcap) (.slice (some ⟨w10.heap.size,0,none⟩) 1 1) (fun k=>k=w10.heap.size) r (OL.map dstr) [dstr ahead] rfl rfl HA.out.1 HA.out.2.1 rfl (by rw [List.length_map,<- HA.out.2.2.2.2.2.1];have:=HA.out.2.2.2.2.2.2.2;simp;unfold maxLen;omega) (by rw [List.length_map,<- HA.out.2.2.2.2.2.1];have:=HA.out.2.2.2.2.2.2.2;simp;omega) ?_;intro ao cap r4 w11 hown hmod hat;rw [List.length_map,<- HA.out.2.2.2.2.2.1] at hown ⊢;simp only [List.length_cons,List.length_nil,Nat.zero_add] at hown ⊢;have H11:=Lh (HFLA.out w11 ao cap r4 hown hmod hat);clear hown hmod hat c0) | (at_builtin;go_must (refine wpList_append_src _ (by rfl) _ _ _ rfl 9 i0 _ 1 16 Tryz.underlying47 hi hz0 hz1 hz2 rfl (by decide) (.slice ao (on+1) cap) (.slice x2.a ls.length x2.cap) (fun k=>w9.heap.size<=k/\k<w10.heap.size) r4 (OL.map dstr++[dstr ahead]) (ls.map dstr) rfl rfl H11.out.1 H11.out.2.1 (by rw [widths_map dstr_flat];simp) (by simp only [List.length_append,List.length_map,List.length_cons,List.length_nil];rw [<- HA.out.2.2.2.2.2.1];have:=HA.out.2.2.2.2.2.2.2;unfold maxLen;omega) (by simp only [List.length_append,List.length_map,List.length_cons,List.length_nil];rw [<- HA.out.2.2.2.2.2.1];have:=HA.out.2.2.2.2.2.2.2;omega) ?_);intro ao2 cap2 r5 w12 hown5 hmod5 hat5;rw [show (OL.map dstr++[dstr ahead]).length+(ls.map dstr).length=on+1+ls.length by simp only [List.length_append,List.length_map,List.length_cons,List.length_nil];rw [<- HA.out.2.2.2.2.2.1]] at hown5 ⊢;have hk12:=heap_kept H11.out.2.2.2.1 hmod5 (fun e=>by have:=H11.out.2.2.1 _ e;have:=HSZ.out;omega);have H12:=Lh (aI hown5 (aI hmod5 (aI hat5 hk12)));have c1:w12.cell? ⟨OB,0,none⟩=some (.slice va on vcap):=cH hk12 rfl;have f1:w12.frozen? ⟨OB,0,none⟩=false:=fH hk12;clear hown5 hmod5 hat5 hk12))
     have hrr:=HA.out.2.2.1
     have hsz:=HSZ.out
     have hm12:Chalk.Mod (fun k=>k=OB∨lo<=k) w w12:=(HM10.out.trans H11.out.2.2.2.2 (fun k _ hk=>.inr (hrr k hk).1)).trans H12.out.2.1 (fun k _ hk=>.inr (H11.out.2.2.1 k hk))
     have hmc:Chalk.Mod (fun k=>k=OB) w12 (w12.setCell ⟨OB,0,none⟩ (.slice ao2 (on+1+ls.length) cap2)):=(Chalk.Mod.refl (fun k=>k=OB) w12).setCell (p:=⟨OB,0,none⟩) (fun _=>rfl) _
     have hr5:∀ k,r5=some k->lo<=k:=fun k hk=>by
      rcases H12.out.2.2.1 with h | h
      ·exact H11.out.2.2.1 k (h ▸ hk)
      ·rw [h] at hk;have:=Option.some.inj hk;have h9:=H11.out.2.2.2.2.size;have h8:=HA.out.2.2.2.2.2.2.1;omega
     refine ⟨⟨j+1,by omega,by go_num,Lh (hm12.setCell (p:=⟨OB,0,none⟩) (fun _=>.inl rfl) _),Lh ⟨.slice ao2 (on+1+ls.length) cap2,by rw [box_store _ H12.out.2.2.2];rfl,?_⟩,HZ2,HW2⟩,by simp [intOf];omega⟩
     rw [HSA.out,<- List.append_assoc,<- HOL.out,List.map_append,List.map_cons]
     have hfl:=H12.out.1.flat (G:=fun _=>False) (by rw [flats_append,flats_append,flats_map dstr_flat,flats_map dstr_flat];rfl) (fun _ _ h=>h) (fun _ h=>h.elim)
     rw [List.append_assoc] at hfl
     exact ⟨r5,hfl.kept hmc (fun _ h=>h.elim) (fun k hk e=>by have:=hr5 k hk;omega),hr5⟩
  ·have hjl:j=sets.length:=by omega
   subst hjl
   rw [List.take_length,List.drop_length] at HW
   rw [List.drop_length] at HZ
   rw [List.take_length] at HO
   have HR2:=Lh (show R.2=0 by rw [HR.out,HZ.out];rfl)
   have HR3:=Lh (show R.1=setsA s l X ahead sets by rw [HR.out,HW.out HZ.out];simp [setsGo])
   clear hE
   go_wp2_with fail
   go_ret
   refine ⟨by rw [HR2.out];rfl,HM.out,fun _=>?_⟩
   rw [HR3.out];exact HO.out
end Go.Proofs.YtncnnbmeacpboaaGreatDoor
