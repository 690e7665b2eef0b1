/- Joined texts: TypE, TypF, TypG, TypH, EvA, EvB. -/
import Derived.Test.YtjjkfgjnadaheaaGreatDoorB30
set_option linter.unusedVariables false
set_option linter.unusedSimpArgs false
set_option maxHeartbeats 2000000
set_option maxRecDepth 100000

/- types: walk. -/
namespace Go.Chalk
open Go.RowKit
theorem bindAll_some {bs:List Bnd} {b:Bnd} {r l:List Bnd} (hl:l=b :: r) {i:Nat} (h:findB bs b.name=some i):bindAll bs l=none:=by
 subst hl;rw [bindAll,if_pos (by rw [h];rfl)]
theorem bindAll_none {bs:List Bnd} {b:Bnd} {r l:List Bnd} (hl:l=b :: r) (h:findB bs b.name=none):bindAll bs l=bindAll (bs++[b]) r:=by
 subst hl;rw [bindAll,if_neg (by rw [h];simp)]
theorem walkL_bad {bs:List Bnd} {f:Frm} {r l:List Frm} (hl:l=f :: r) {c:Int} (h:walkF bs f=c) (hc:c ≠ 0):walkL bs l=c:=by
 subst hl;rw [walkL,h,if_pos hc]
theorem walkL_good {bs:List Bnd} {f:Frm} {r l:List Frm} (hl:l=f :: r) (h:walkF bs f=0):walkL bs l=walkL bs r:=by
 subst hl;rw [walkL,h,if_neg (by simp)]
theorem nodes_child {kind:Int} {name:Bs} {n:Int} {terms:List Trm} {binds:List Bnd} {fl:List Frm} (h:(nodesF (.mk kind name n terms binds fl)).all formedF=true) (j:Nat) (hj:j<fl.length):(nodesF fl[j]).all formedF=true:=by
 rw [nodesF,List.all_cons,Bool.and_eq_true] at h
 have:∀ (l:List Frm),(nodesL l).all formedF=true->∀ g∈l,(nodesF g).all formedF=true:=by
  intro l
  induction l with
  | nil=>intro _ g hg;cases hg
  | cons x r ih =>
   intro hl g hg
   rw [nodesL,List.all_append,Bool.and_eq_true] at hl
   rcases List.mem_cons.1 hg with rfl | hg
   ·exact hl.1
   ·exact ih hl.2 g hg
 exact this fl h.2 _ (List.getElem_mem hj)
end Go.Chalk
namespace Go.Proofs.YtjjkfgjnadaheaaGreatDoor
open Go.RowKit Go.Chalk
theorem walk_plain (kind:Int) (name:Bs) (n:Int) (binds:List Bnd) (fl:List Frm)
  (ih:∀ (j:Nat) (hj:j<fl.length) (a:List Bnd) (x:SlA) (y:FrmA) (w:World),SlIn w (·<w.heap.size) (a.map Bnd.toD) x->FrmIn w (·<w.heap.size) fl[j] y->a.length+6*fl[j].depth<=1900000->GG w ->
   Calls Tryz.prog 102 #[.slice x.a a.length x.cap,ndV (fl[j],y)] w fun e w'=>e=.returned (.int .i64 (walkF a fl[j]))/\Below w.heap.size w w')
  (a:List Bnd) (x:SlA) (y:FrmA) (w:World) (hx:SlIn w (·<w.heap.size) (a.map Bnd.toD) x) (hy:FrmIn w (·<w.heap.size) (.mk kind name n [] binds fl) y) (hl:a.length+6*(fdepths fl+1)<=1900000) (hb6:binds.length<=6) (hfl:fl.length<=2000000) (h9:(kind==9)=false) (hg:GG w) :
  Calls Tryz.prog 102 #[.slice x.a a.length x.cap,ndV (.mk kind name n [] binds fl,y)] w fun e w'=>e=.returned (.int .i64 (walkF a (.mk kind name n [] binds fl)))/\Below w.heap.size w w':=by
 have hba:Below w.heap.size w (w.alloc (.cells (y.cells (.mk kind name n [] binds fl)).toArray 34)):=(Below.refl _ _).alloc (Nat.le_refl _) _
 have hcap:a.length<=x.cap:=by have:=hx.le;simpa using this
 have hcm:=hx.max
 obtain ⟨g1,_,_,g4,g5⟩:=hy.binds.flat Bnd.flatT
 have hnil:x.a=none->a.map Bnd.toD=[]:=fun hn=>by
  cases ha:a with
  | nil=>rfl
  | cons b r=>have:=(hx.at_ (by rw [ha];simp)).1;rw [this] at hn;cases hn
 have hsl:SlIn w (·<w.heap.size) (a.map Bnd.toD) ⟨x.a,x.b,x.o,a.length⟩:=⟨hx.at_,by simp,by show a.length<=maxLen;omega,hx.row⟩
 have hon:Onto1 (w.alloc (.cells (y.cells (.mk kind name n [] binds fl)).toArray 34)) (w.heap.size+1) (fun _=>False) 149 2 (.slice x.a a.length a.length) (a.map Bnd.toD) :=
  .inl ⟨⟨x.a,x.b,x.o,a.length⟩,by simp,by simp,(hsl.agree (agree_of_below hba)).mono (fun k hk=>Nat.lt_succ_of_lt hk),hnil,flats_map Bnd.flatT a,by simp,fun _ h=>h.elim⟩
 have HC:=Lh g4
 have HFN:=Lh g5
 have HFI:Hid (∀ (j:Nat) (hj:j<fl.length),∃ y1:FrmA,FrmIn w (·<w.heap.size) fl[j] y1/\CellsAt w y.l.b (y.l.o+j*6) (y1.cells fl[j])):=Lh (fun (j:Nat) (hj:j<fl.length)=>hy.l.frm j hj)
 have HFS:=Lh hy.l.at_
 have HIH:=Lh ih
 have HG:=Lh hg
 have HW:=Lh (walkF_nil a kind name n binds fl)
 have HB:=Lh hba
 have HON:=Lh hon
 have HG1:=Lh g1
 obtain ⟨i0,hi,hz0,hz1,hz2⟩:=info_parts infoBnd
 clear hx hy g1 g4 g5 ih hg hba hon hnil hsl
 simp only [ndV,FrmA.cells,SlA.val,Frm.kind,Frm.name,Frm.n,Frm.terms,Frm.binds,Frm.l,List.length_nil] at HC HFN HG1 HFS HB HON ⊢
 generalize walkF a (.mk kind name n [] binds fl)=res at HW ⊢
 go_enter Tryz.func102,Tryz.ntmps102
 go_wp2_with (go_at_call 175;refine (clip_any _ _ _ hcap hcm _).mono ?_;rintro e w' ⟨rfl,rfl⟩)
 go_loopw [10,80] (fun v i wr=>∃ (j:Nat) (bs:List Bnd),j<=binds.length/\i=.int .i64 j/\Below w.heap.size w wr/\Hid (wr.heap[w.heap.size]?=some (.cells #[.int .i64 kind,.string ⟨name.toArray⟩,.int .i64 n,.slice y.t.a 0 y.t.cap,.slice y.b.a binds.length y.b.cap,.slice y.l.a fl.length y.l.cap] 34 (0,0)))/\Hid (Onto1 wr (w.heap.size+1) (fun _=>False) 149 2 v (bs.map Bnd.toD))/\Hid (bs.length=a.length+j/\bindAll a binds=bindAll bs (binds.drop j))) (fun _ i _=>binds.length - (intOf i).toNat)
 case atStart=>exact ⟨0,a,Nat.zero_le _,rfl,HB.out,Lh (boxed (B:=w.heap.size+1) (Below.refl _ _) (by omega)),HON,Lh ⟨rfl,rfl⟩⟩
 case round =>
  obtain ⟨j,bs,hj,rfl,hb,HBX,HO,HE⟩:=hrel
  clear HON
  obtain ⟨x1,hv,hx1⟩:=HO.out.sl (by rw [widths_map Bnd.flatT,List.length_map])
  rw [List.length_map] at hv
  subst hv
  have hbl:bs.length<=1900000:=by have:=HE.out.1;omega
  have HX1:=Lh hx1
  clear hx1
  by_cases hlt:j<binds.length
  ·obtain ⟨hxa,hbl2⟩:=HG1.out (by omega)
   obtain ⟨q0,q1⟩:=HC.out.two j hlt rfl
   have e0:=(hb.cell (p:=⟨y.b.b,y.b.o+j*2,none⟩) hbl2).trans q0
   have e1:=(hb.cell (p:=⟨y.b.b,y.b.o+j*2+1,none⟩) hbl2).trans q1
   have hba:Below w.heap.size w (wr.alloc (.cells #[.string ⟨binds[j].name.toArray⟩,.int .i64 binds[j].sort] 149)):=hb.alloc hb.size _
   have hbr:Below wr.heap.size wr (wr.alloc (.cells #[.string ⟨binds[j].name.toArray⟩,.int .i64 binds[j].sort] 149)):=(Below.refl _ _).alloc (Nat.le_refl _) _
   have HFD:=Lh (find_any bs x1 binds[j].name _ (HX1.out.later hbr hbr.size) (by omega))
   have HO1:=Lh (HO.out.below hbr)
   have HFINE:=Lh (HFN.out _ (List.getElem_mem hlt))
   have hdrop:binds.drop j=binds[j] :: binds.drop (j+1):=List.drop_eq_getElem_cons hlt
   have HDR:=Lh hdrop
   have HBA:=Lh hba
   rw [hxa] at HBX ⊢
   clear q0 q1 hba hbr hdrop
   generalize hbe:binds[j]=be at HFD HO1 HFINE HDR HBA e0 e1
   clear hbe
   obtain ⟨nm,so⟩:=be
   simp only at HFD HO1 HBA e0 e1
   cases hf:findB bs nm with
   | some i =>
    have hfi:findI bs nm=i:=by unfold findI;rw [hf]
    rw [hfi] at HFD
    have HR:Hid (res=82):=Lh (by rw [HW.out,HE.out.2,bindAll_some HDR.out hf])
    clear hf hfi
    go_wp2_with fail
    refine HFD.out.mono ?_
    rintro e w1 ⟨rfl,hb1⟩
    have HB1:=Lh (HBA.out.trans (hb1.mono HBA.out.size))
    clear hb1
    go_wp2_with fail
    go_ret
    exact ⟨ret_int HR.out.symm,HB1.out⟩
   | none =>
    have hfi:findI bs nm = -1:=by unfold findI;rw [hf]
    rw [hfi] at HFD
    have HR:=Lh (HE.out.2.trans (bindAll_none HDR.out hf))
    clear hf hfi
    go_wp2_with fail
    refine HFD.out.mono ?_
    rintro e w1 ⟨rfl,hb1⟩
    have HB1:=Lh (HBA.out.trans (hb1.mono HBA.out.size))
    have q0:w1.cell? ⟨wr.heap.size,0,none⟩=some (.string ⟨nm.toArray⟩):=cH (boxed (B:=wr.heap.size+1) (by simpa using hb1) (by omega)) rfl
    have q1:w1.cell? ⟨wr.heap.size,1,none⟩=some (.int .i64 so):=cH (boxed (B:=wr.heap.size+1) (by simpa using hb1) (by omega)) rfl
    have HO2:=Lh (HO1.out.below hb1)
    have hlw:=(gS HBX.out).1
    have HBX1:=Lh ((hb1.block w.heap.size (by simp;omega)).trans ((Below.heap_alloc _ _ _ hlw).trans HBX.out))
    clear hb1
    go_wp2_with (at_builtin;go_must (refine wpList_append_one rfl _ _ 165 rfl 149 i0 _ 2 24 Tryz.underlying165 hi hz0 hz1 hz2 rfl (by decide) (.slice x1.a bs.length x1.cap) (bs.map Bnd.toD) (Bnd.toD ⟨nm,so⟩) [.string ⟨nm.toArray⟩,.int .i64 so] 149 rfl rfl HO2.out (DsAt.flat1 (Bnd.flatT.flat _) HFINE.out) (by have:=(gS HBX1.out).1;omega) rfl (by rw [widths_map Bnd.flatT,List.length_map]) (by rw [List.length_map];unfold maxLen;omega) (by rw [List.length_map];omega) ?_);intro ao cap w5 hon hb5;have HON:=Lh (aI hon (aI (HB1.out.trans (hb5.mono (by omega))) ((hb5.block _ (by omega)).trans HBX1.out)));clear hon hb5)
    refine ⟨⟨j+1,bs++[⟨nm,so⟩],by omega,by go_num,HON.out.2.1,Lh HON.out.2.2,Lh ?_,Lh ⟨by have:=HE.out.1;simp;omega,HR.out⟩⟩,by simp [intOf];omega⟩
    have:=HON.out.1
    rw [List.length_map] at this
    simpa using this
  ·have hjb:j=binds.length:=by omega
   obtain ⟨wo,rfl⟩:∃ wo,wo=wr:=⟨_,rfl⟩
   have HR:Hid (res=walkL bs fl):=Lh (by rw [HW.out,HE.out.2,hjb,List.drop_length,bindAll])
   have hdep:bs.length+6*fdepths fl<=1900000:=by have:=HE.out.1;omega
   have HBR:=Lh hb
   have HXW:=Lh (fun (W:World) (hW:Below wo.heap.size wo W)=>HX1.out.later hW hW.size)
   have b5:wo.cell? ⟨w.heap.size,5,none⟩=some (.slice y.l.a fl.length y.l.cap):=cH HBX.out rfl
   clear HC HFN HG1 HO HE HB HBX hjb
   go_wp2_with fail
   go_loopw [97] (fun i wr=>∃ j2:Nat,j2<=fl.length/\i=.int .i64 j2/\Below wo.heap.size wo wr/\Hid (walkL bs fl=walkL bs (fl.drop j2))) (fun i _=>fl.length - (intOf i).toNat)
   case atStart=>exact ⟨0,Nat.zero_le _,rfl,Below.refl _ _,Lh rfl⟩
   case round =>
    obtain ⟨j2,hj2,rfl,hb2,HE2⟩:=hrel
    by_cases hlt2:j2<fl.length
    ·obtain ⟨y1,hy1,hy2⟩:=HFI.out j2 hlt2
     obtain ⟨hxa,hFb⟩:=HFS.out (by rw [List.length_map];omega)
     have hbw:Below w.heap.size w wr:=HBR.out.trans (hb2.mono HBR.out.size)
     obtain ⟨e0,e1,e2,e3,e4,e5⟩:=(hy2.agree (agree_of_below hbw) hFb).six
     have hbr:Below wo.heap.size wo (wr.alloc (.cells (y1.cells fl[j2]).toArray 34)):=hb2.alloc hb2.size _
     have hbw2:Below w.heap.size w (wr.alloc (.cells (y1.cells fl[j2]).toArray 34)):=hbw.alloc hbw.size _
     have hdp:=depth_le_fdepths fl j2 hlt2
     have HCL:=Lh (HIH.out j2 hlt2 bs x1 y1 (wr.alloc (.cells (y1.cells fl[j2]).toArray 34)) (HXW.out _ hbr) (hy1.later hbw2 hbw2.size) (by omega) (HG.out.below hbw2))
     have HBR2:=Lh hbr
     have hdrop:fl.drop j2=fl[j2] :: fl.drop (j2+1):=List.drop_eq_getElem_cons hlt2
     have HDR:=Lh hdrop
     obtain ⟨c,hc⟩:∃ c,walkF bs fl[j2]=c:=⟨_,rfl⟩
     rw [hc] at HCL
     have HCC:=Lh hc
     rw [hxa]
     clear hy1 hy2 hFb hbw hbr hbw2 hdrop hc hdp
     generalize fl[j2]=fe at HCL HBR2 HDR HCC e0 e1 e2 e3 e4 e5
     obtain ⟨kind1,name1,n1,terms1,binds1,fl1⟩:=fe
     simp only [ndV,FrmA.cells,SlA.val,Frm.kind,Frm.name,Frm.n,Frm.terms,Frm.binds,Frm.l] at HCL HBR2 e0 e1 e2 e3 e4 e5
     have hcd:(c ≠ 0/\(c != 0)=true)∨(c=0/\(c != 0)=false):=by by_cases h:c=0 <;> simp [h]
     rcases hcd with ⟨d1,d2⟩ | ⟨d1,d2⟩
     ·have HD:=Lh (HR.out.trans (HE2.out.trans (walkL_bad HDR.out HCC.out d1)))
      clear d1
      go_wp2_with fail
      refine HCL.out.mono ?_
      rintro e w1 ⟨rfl,hb1⟩
      have HB1:=Lh (HBR.out.trans ((HBR2.out.trans (hb1.mono HBR2.out.size)).mono HBR.out.size))
      clear hb1
      go_wp2_with fail
      go_ret
      exact ⟨ret_int HD.out.symm,HB1.out⟩
     ·subst d1
      clear d2
      have HD:=Lh (HE2.out.trans (walkL_good HDR.out HCC.out))
      go_wp2_with fail
      refine HCL.out.mono ?_
      rintro e w1 ⟨rfl,hb1⟩
      have HB1:=Lh (HBR2.out.trans (hb1.mono HBR2.out.size))
      clear hb1
      go_wp2_with fail
      exact ⟨⟨j2+1,by omega,by go_num,HB1.out,HD⟩,by simp [intOf];omega⟩
    ·go_wp2_with fail
     go_ret
     have hjl:j2=fl.length:=by omega
     exact ⟨ret_int (by rw [HR.out,HE2.out,hjl,List.drop_length,walkL]),HBR.out.trans (hb2.mono HBR.out.size)⟩

theorem awalk_any (m:Nat):∀ (f:Frm) (a:List Bnd) (x:SlA) (y:FrmA) (w:World),f.size<=m->f.size<=2000000->(nodesF f).all formedF=true->SlIn w (·<w.heap.size) (a.map Bnd.toD) x->FrmIn w (·<w.heap.size) f y->a.length+6*f.depth<=1900000->GG w ->
  Calls Tryz.prog 102 #[.slice x.a a.length x.cap,ndV (f,y)] w fun e w'=>e=.returned (.int .i64 (walkF a f))/\Below w.heap.size w w':=by
 induction m with
 | zero=>intro f _ _ _ _ h;have:=f.size_pos;omega
 | succ m ih =>
  rintro ⟨kind,name,n,terms,binds,fl⟩ a x y w hm hs hf hx hy hd hg
  have hf1:formedF (.mk kind name n terms binds fl)=true:=by
   rw [nodesF,List.all_cons,Bool.and_eq_true] at hf;exact hf.1
  rw [Frm.size] at hm hs
  rw [Frm.depth] at hd
  have hll:=length_le_fsizes fl
  cases hk:atomK kind
  ·obtain ⟨ht,hb6⟩:=formed_plain hf1 hk
   subst ht
   have h9:(kind==9)=false:=by
    unfold atomK at hk
    simp;intro h;subst h;simp at hk
   exact walk_plain kind name n binds fl (fun j hj a' x' y' w' h1 h2 h3 h4=>ih fl[j] a' x' y' w' (by have:=size_le_fsizes fl j hj;omega) (by have:=size_le_fsizes fl j hj;omega) (nodes_child hf j hj) h1 h2 h3 h4) a x y w hx hy hd hb6 (by omega) h9 hg
  ·by_cases h9:kind=9
   ·subst h9
    exact walk_cmp a x name n terms binds fl y w hx hy.terms (by omega) hf1 hg
   ·exact walk_atom a x kind name n terms binds fl y w hx hy.terms (by omega) hf1 (by unfold atomK at hk;simp at hk;omega) hg
end Go.Proofs.YtjjkfgjnadaheaaGreatDoor
/- types: Term, Form. -/
namespace Go.Chalk
open Go.RowKit
theorem SlIn.lt {w:World} {xs:List D} {x:SlA} {B C:Nat} (h:SlIn w (·<B) xs x) (hC:B<=C):SlIn w (·<C) xs x:=h.mono (fun _ hk=>Nat.lt_of_lt_of_le hk hC)
structure TrmFit (t:Trm):Prop where
 kind:I64 t.kind
 name:t.name.length<=4000000
 n:I64 t.n
theorem Trm.fine {t:Trm} (h:TrmFit t):t.toD.fine:=⟨h.kind.wf,by rw [D.fine,bs_size];have:=h.name;unfold maxLen;omega,h.n.wf,trivial⟩
def termFrm (t:Trm):Frm:=.mk 9 [61] 0 [t,t] [] []
theorem termFrm_check (t:Trm):(frmCheck (termFrm t) != 0) = !(termedF t):=by
 have h:(nodesF (termFrm t)).all formedF=termedF t:=by
  have hp:partsOk (termFrm t)=true:=by unfold termFrm;rw [partsOk_mk];simp [arityF,atomK,quantK,countK]
  simp only [termFrm,nodesF,nodesL,List.append_nil,List.all_cons,List.all_nil,Bool.and_true]
  rw [formedF_mk,show partsOk (.mk 9 [61] 0 [t,t] [] [])=true from hp,Bool.true_and,if_neg (by decide),if_pos (by decide)]
  simp
 unfold frmCheck
 rw [h]
 cases hb:termedF t
 ·rfl
 ·rw [if_neg (by simp),if_neg (by simp [termFrm,Frm.size,fsizes,Frm.depth,fdepths])];rfl
end Go.Chalk
namespace Go.Proofs.YtjjkfgjnadaheaaGreatDoor
open Go.RowKit Go.Chalk
theorem tform_any (env:List Bnd) (x:SlA) (f:Frm) (y:FrmA) (w:World) (hx:SlIn w (·<w.heap.size) (env.map Bnd.toD) x) (hy:FrmIn w (·<w.heap.size) f y) (hl:env.length<=1500000) (hmax:∀ b∈env,b.name.length<=4000000) (hf:FrmFit f) (hg:GG w) :
  Calls Tryz.prog 53 #[.slice x.a env.length x.cap,ndV (f,y)] w fun e w'=>e=.returned (.int .i64 (typForm env f))/\Below w.heap.size w w':=by
 have hba:Below w.heap.size w (w.alloc (.cells (y.cells f).toArray 34)):=(Below.refl _ _).alloc (Nat.le_refl _) _
 have hbx:(w.alloc (.cells (y.cells f).toArray 34)).heap[w.heap.size]?=some (.cells (y.cells f).toArray 34 (0,0)):=boxed (B:=w.heap.size+1) (Below.refl _ _) (by omega)
 have HM:=Lh (amay_any env x _ (hx.later hba hba.size) (by omega) hmax (hg.below hba))
 have HCK:=Lh (fun (W:World) (hW:Below w.heap.size w W)=>fcheck_any f y W (hy.later hW hW.size) hf (hg.below hW))
 have HWK:=Lh (fun (W:World) (hW:Below w.heap.size w W) (h:frmCheck f=0)=>awalk_any f.size f env x y W (Nat.le_refl _) hf.size (frmCheck_zero.1 h).1 (hx.later hW hW.size) (hy.later hW hW.size) (by have:=(frmCheck_zero.1 h).2.2;omega) (hg.below hW))
 have HR:Hid (typForm env f=if mayA env=false then 1 else if frmCheck f ≠ 0 then frmCheck f else walkF env f):=Lh rfl
 have HB:=Lh (aI hba hbx)
 clear hx hy hba hbx hmax hg hf
 generalize typForm env f=res at HR ⊢
 generalize frmCheck f=fc at HCK HWK HR
 generalize walkF env f=wk at HWK HR
 generalize mayA env=my at HM HR
 obtain ⟨kind,name,n,terms,binds,fl⟩:=f
 simp only [ndV,FrmA.cells,SlA.val,Frm.kind,Frm.name,Frm.n,Frm.terms,Frm.binds,Frm.l] at HB HCK HWK HM ⊢
 go_enter Tryz.func53,Tryz.ntmps53
 go_wp2_with fail
 refine HM.out.mono ?_
 rintro e w1 ⟨rfl,hb1⟩
 have hbx1:=(hb1.block w.heap.size (by simp)).trans HB.out.2
 have HB1:=Lh (aI (HB.out.1.trans (hb1.mono HB.out.1.size)) hbx1)
 cases my
 ·clear hb1 hbx1
  go_wp2_with fail
  go_ret
  exact ⟨ret_int (by rw [HR.out];rfl),HB1.out.1⟩
 ·have b0:w1.cell? ⟨w.heap.size,0,none⟩=some (.int .i64 kind):=cH hbx1 rfl
  have b1:w1.cell? ⟨w.heap.size,1,none⟩=some (.string ⟨name.toArray⟩):=cH hbx1 rfl
  have b2:w1.cell? ⟨w.heap.size,2,none⟩=some (.int .i64 n):=cH hbx1 rfl
  have b3:w1.cell? ⟨w.heap.size,3,none⟩=some (.slice y.t.a terms.length y.t.cap):=cH hbx1 rfl
  have b4:w1.cell? ⟨w.heap.size,4,none⟩=some (.slice y.b.a binds.length y.b.cap):=cH hbx1 rfl
  have b5:w1.cell? ⟨w.heap.size,5,none⟩=some (.slice y.l.a fl.length y.l.cap):=cH hbx1 rfl
  clear hb1 hbx1
  have hd:(fc ≠ 0/\(fc != 0)=true)∨(fc=0/\(fc != 0)=false):=by by_cases h:fc=0 <;> simp [h]
  go_wp2_with fail
  refine (HCK.out _ HB1.out.1).mono ?_
  rintro e w2 ⟨rfl,hb2⟩
  have hbx2:=(hb2.block w.heap.size ((gS HB1.out.2).1)).trans HB1.out.2
  have HB2:=Lh (HB1.out.1.trans (hb2.mono HB1.out.1.size))
  clear b0 b1 b2 b3 b4 b5 hb2
  rcases hd with ⟨d1,d2⟩ | ⟨d1,d2⟩
  ·have HD:=Lh d1
   clear d1 hbx2
   go_wp2_with fail
   go_ret
   exact ⟨ret_int (by rw [HR.out,if_neg (by simp),if_pos HD.out]),HB2.out⟩
  ·subst d1
   clear d2
   have b0:w2.cell? ⟨w.heap.size,0,none⟩=some (.int .i64 kind):=cH hbx2 rfl
   have b1:w2.cell? ⟨w.heap.size,1,none⟩=some (.string ⟨name.toArray⟩):=cH hbx2 rfl
   have b2:w2.cell? ⟨w.heap.size,2,none⟩=some (.int .i64 n):=cH hbx2 rfl
   have b3:w2.cell? ⟨w.heap.size,3,none⟩=some (.slice y.t.a terms.length y.t.cap):=cH hbx2 rfl
   have b4:w2.cell? ⟨w.heap.size,4,none⟩=some (.slice y.b.a binds.length y.b.cap):=cH hbx2 rfl
   have b5:w2.cell? ⟨w.heap.size,5,none⟩=some (.slice y.l.a fl.length y.l.cap):=cH hbx2 rfl
   have HWW:=Lh (HWK.out _ HB2.out (by first | rfl | trivial))
   clear hbx2
   go_wp2_with fail
   refine HWW.out.mono ?_
   rintro e w3 ⟨rfl,hb3⟩
   have HB3:=Lh (HB2.out.trans (hb3.mono HB2.out.size))
   clear hb3
   go_wp2_with fail
   go_ret
   exact ⟨ret_int (by rw [HR.out,if_neg (by simp),if_neg (by simp)]),HB3.out⟩

theorem tterm_any (env:List Bnd) (x:SlA) (t:Trm) (w:World) (hx:SlIn w (·<w.heap.size) (env.map Bnd.toD) x) (hl:env.length<=1500000) (hmax:∀ b∈env,b.name.length<=4000000) (ht:TrmFit t) (hg:GG w) :
  Calls Tryz.prog 99 #[.slice x.a env.length x.cap,.agg #[.int .i64 t.kind,.string ⟨t.name.toArray⟩,.int .i64 t.n]] w fun e w'=>e=.returned (.tuple #[.int .i64 (typTerm env t).1,.int .i64 (typTerm env t).2])/\Below w.heap.size w w':=by
 have hba:Below w.heap.size w (w.alloc (.cells #[.int .i64 t.kind,.string ⟨t.name.toArray⟩,.int .i64 t.n] 147)):=(Below.refl _ _).alloc (Nat.le_refl _) _
 have HM:=Lh (amay_any env x _ (hx.later hba hba.size) (by omega) hmax (hg.below hba))
 have hcheck:=fun (W:World) (hW:Below w.heap.size w W)=>(by
  have hb2:Below W.heap.size W (W.alloc (.cells #[.int .i64 t.kind,.string ⟨t.name.toArray⟩,.int .i64 t.n,.int .i64 t.kind,.string ⟨t.name.toArray⟩,.int .i64 t.n] 147)):=(Below.refl _ _).alloc (Nat.le_refl _) _
  have hin:FrmIn (W.alloc (.cells #[.int .i64 t.kind,.string ⟨t.name.toArray⟩,.int .i64 t.n,.int .i64 t.kind,.string ⟨t.name.toArray⟩,.int .i64 t.n] 147)) (·<(W.alloc (.cells #[.int .i64 t.kind,.string ⟨t.name.toArray⟩,.int .i64 t.n,.int .i64 t.kind,.string ⟨t.name.toArray⟩,.int .i64 t.n] 147)).heap.size) (termFrm t) ⟨⟨some ⟨W.heap.size,0,none⟩,W.heap.size,0,2⟩,noSl,noSl⟩ :=
   ⟨(show I64 9 from i64_small (by decide) (by decide)),(show (1:Nat)<=maxLen from by decide),(show I64 0 from i64_small (by decide) (by decide)),
    SlIn.lit (cs:=t.toD.vals++t.toD.vals) (boxed (B:=W.heap.size+1) (Below.refl _ _) (by omega)) (DsAt.flat2 (Trm.flatT.flat t) (Trm.fine ht) (Trm.flatT.flat t) (Trm.fine ht)) (by show _<_;simp) (Nat.le_refl _) (by decide),SlIn.nil (Nat.zero_le _) _ _ _,SlIn.nil (Nat.zero_le _) _ _ _⟩
  have hfit:FrmFit (termFrm t):=⟨by simp [termFrm,Frm.size,fsizes],fun g hg=>by
   simp only [termFrm,nodesF,nodesL,List.mem_cons,List.not_mem_nil,or_false] at hg
   subst hg
   refine ⟨by simp [Frm.terms],by simp [Frm.binds],by simp [Frm.l],by simp [Frm.name],fun u hu=>?_,fun c hc=>by simp [Frm.binds] at hc⟩
   simp [Frm.terms] at hu;subst hu;exact ht.name⟩
  have hc:=fcheck_any (termFrm t) _ _ hin hfit (hg.below (hW.trans (hb2.mono hW.size)))
  simp only [ndV,termFrm,FrmA.cells,SlA.val,Frm.kind,Frm.name,Frm.n,Frm.terms,Frm.binds,Frm.l,List.length_cons,List.length_nil,noSl,Nat.zero_add,Nat.reduceAdd] at hc
  exact hc:Calls Tryz.prog 73 #[.agg #[.int .i64 9,.string ⟨[61].toArray⟩,.int .i64 0,.slice (some ⟨W.heap.size,0,none⟩) 2 2,.slice none 0 0,.slice none 0 0]] (W.alloc (.cells #[.int .i64 t.kind,.string ⟨t.name.toArray⟩,.int .i64 t.n,.int .i64 t.kind,.string ⟨t.name.toArray⟩,.int .i64 t.n] 147)) fun e w'=>e=.returned (.int .i64 (frmCheck (.mk 9 [61] 0 [t,t] [] [])))/\Below (W.alloc (.cells #[.int .i64 t.kind,.string ⟨t.name.toArray⟩,.int .i64 t.n,.int .i64 t.kind,.string ⟨t.name.toArray⟩,.int .i64 t.n] 147)).heap.size (W.alloc (.cells #[.int .i64 t.kind,.string ⟨t.name.toArray⟩,.int .i64 t.n,.int .i64 t.kind,.string ⟨t.name.toArray⟩,.int .i64 t.n] 147)) w')
 have hso:=fun (W:World) (hW:Below w.heap.size w W) (h:termedF t=true)=>sort_any env x t W (hx.later hW hW.size) (by omega) (by
  unfold termedF at h
  split at h
  ·rename_i he;omega
  ·simp only [Bool.and_eq_true,decide_eq_true_eq] at h;omega) (hg.below hW)
 have hte:(frmCheck (.mk 9 [61] 0 [t,t] [] []) != 0) = !(termedF t):=termFrm_check t
 have hres:typTerm env t=if mayA env=false∨termedF t=false then (0,1) else sortF env t:=rfl
 have HCK:=Lh hcheck
 have HSO:=Lh hso
 have HR:=Lh hres
 have HTE:=Lh hte
 have HB:=Lh hba
 clear hcheck hso hres hte hba hx hg hmax ht
 generalize typTerm env t=res at HR ⊢
 generalize mayA env=my at HM HR
 generalize termedF t=te at HSO HTE HR
 generalize sortF env t=so at HSO HR
 generalize frmCheck (.mk 9 [61] 0 [t,t] [] [])=fc at HCK HTE
 obtain ⟨kind,name,n⟩:=t
 simp only at HM HCK HSO HB ⊢
 go_enter Tryz.func99,Tryz.ntmps99
 go_wp2_with fail
 refine HM.out.mono ?_
 rintro e w1 ⟨rfl,hb1⟩
 have hbx1:=(hb1.block w.heap.size (by simp)).trans (boxed (B:=w.heap.size+1) (o:=.cells #[.int .i64 kind,.string ⟨name.toArray⟩,.int .i64 n] 147) (Below.refl _ _) (by omega))
 have HB1:=Lh (aI (HB.out.trans (hb1.mono HB.out.size)) hbx1)
 cases my
 ·clear hb1 hbx1
  have HRR:Hid (res=(0,1)):=Lh (by rw [HR.out,if_pos (.inl rfl)])
  go_wp2_with fail
  go_ret2
  exact ⟨by rw [HRR.out];rfl,HB1.out.1⟩
 ·have b0:w1.cell? ⟨w.heap.size,0,none⟩=some (.int .i64 kind):=cH hbx1 rfl
  have b1:w1.cell? ⟨w.heap.size,1,none⟩=some (.string ⟨name.toArray⟩):=cH hbx1 rfl
  have b2:w1.cell? ⟨w.heap.size,2,none⟩=some (.int .i64 n):=cH hbx1 rfl
  have HCC:=Lh (HCK.out w1 HB1.out.1)
  clear hb1 hbx1
  cases te
  ·have hfc:(fc != 0)=true:=HTE.out
   have HRR:Hid (res=(0,1)):=Lh (by rw [HR.out,if_pos (.inr rfl)])
   go_wp2_with fail
   refine HCC.out.mono ?_
   rintro e w2 ⟨rfl,hb2⟩
   have HB2:=Lh (HB1.out.1.trans ((((Below.refl w1.heap.size w1).alloc (Nat.le_refl _) _).trans (hb2.mono (by simp))).mono HB1.out.1.size))
   clear hb2 b0 b1 b2
   go_wp2_with fail
   go_ret2
   exact ⟨by rw [HRR.out];rfl,HB2.out⟩
  ·have hfc:fc=0:=int_eq HTE.out
   subst hfc
   have HRR:Hid (res=so):=Lh (by rw [HR.out,if_neg (by simp)])
   go_wp2_with fail
   refine HCC.out.mono ?_
   rintro e w2 ⟨rfl,hb2⟩
   have hb12:=((Below.refl w1.heap.size w1).alloc (Nat.le_refl _) (.cells #[.int .i64 kind,.string ⟨name.toArray⟩,.int .i64 n,.int .i64 kind,.string ⟨name.toArray⟩,.int .i64 n] 147)).trans (hb2.mono (by simp))
   have HB2:=Lh (HB1.out.1.trans (hb12.mono HB1.out.1.size))
   have hbx2:=(hb12.block w.heap.size ((gS HB1.out.2).1)).trans HB1.out.2
   have c0:w2.cell? ⟨w.heap.size,0,none⟩=some (.int .i64 kind):=cH hbx2 rfl
   have c1:w2.cell? ⟨w.heap.size,1,none⟩=some (.string ⟨name.toArray⟩):=cH hbx2 rfl
   have c2:w2.cell? ⟨w.heap.size,2,none⟩=some (.int .i64 n):=cH hbx2 rfl
   have HSS:=Lh (HSO.out w2 HB2.out (by first | rfl | trivial))
   clear hb2 b0 b1 b2 hb12 hbx2
   go_wp2_with fail
   refine HSS.out.mono ?_
   rintro e w3 ⟨rfl,hb3⟩
   have HB3:=Lh (HB2.out.trans (hb3.mono HB2.out.size))
   clear hb3
   go_wp2_with fail
   go_ret2
   exact ⟨by rw [HRR.out];rfl,HB3.out⟩
end Go.Proofs.YtjjkfgjnadaheaaGreatDoor
/- types: Rule. -/
namespace Go.Chalk
open Go.RowKit
end Go.Chalk
namespace Go.Proofs.YtjjkfgjnadaheaaGreatDoor
open Go.RowKit Go.Chalk
structure RulFit (r:Rul):Prop where
 name:r.name.length<=4000000
 len:r.each.length<=1500000
 each:∀ b∈r.each,b.name.length<=4000000
 body:FrmFit r.body

end Go.Proofs.YtjjkfgjnadaheaaGreatDoor
/- types: Rules. -/
namespace Go.Chalk
open Go.RowKit
theorem RulIn.later {w w':World} {r:Rul} {x:RulA} {B C:Nat} (h:RulIn w (·<B) r x) (hb:Below B w w') (hC:B<=C):RulIn w' (·<C) r x:=(h.agree (agree_of_below hb)).mono (fun _ hk=>Nat.lt_of_lt_of_le hk hC)
end Go.Chalk
namespace Go.Proofs.YtjjkfgjnadaheaaGreatDoor
open Go.RowKit Go.Chalk
end Go.Proofs.YtjjkfgjnadaheaaGreatDoor
/- week.Check. -/
namespace Go.Proofs.YtjjkfgjnadaheaaGreatDoor
open Go.RowKit Go.Chalk
def SchBox (W:World) (b:Nat) (s:Schl) (x:SchA):Prop:=W.heap[b]?=some (.cells (x.cells s).toArray 28 (0,0))
theorem SchBox.cells {W:World} {b:Nat} {s:Schl} {x:SchA} (h:SchBox W b s x):W.cell? ⟨b,0,none⟩=some (.slice x.slots.a s.slots.length x.slots.cap)/\W.cell? ⟨b,1,none⟩=some (.slice x.rooms.a s.rooms.length x.rooms.cap)/\W.cell? ⟨b,2,none⟩=some (.slice x.people.a s.people.length x.people.cap)/\W.cell? ⟨b,3,none⟩=some (.slice x.groups.a s.groups.length x.groups.cap)/\W.cell? ⟨b,4,none⟩=some (.slice x.lessons.a s.lessons.length x.lessons.cap) :=
 ⟨cH h rfl,cH h rfl,cH h rfl,cH h rfl,cH h rfl⟩
theorem SchBox.below {W W':World} {b:Nat} {s:Schl} {x:SchA} (h:SchBox W b s x) (hb:Below W.heap.size W W'):SchBox W' b s x:=(hb.block _ (gS h).1).trans h
theorem SchBox.lt {W:World} {b:Nat} {s:Schl} {x:SchA} (h:SchBox W b s x):b<W.heap.size:=(gS h).1

theorem lost_any (p:Plc) (s:Schl) (x:SchA) (q:Nat) (w:World) (hq:SchBox w q s x) :
  Calls Tryz.prog 95 #[.agg #[.int .i64 p.slot,.int .i64 p.room],.pointer (some ⟨q,0,none⟩)] w (Answers w (lostB s p)):=by
 obtain ⟨slot,room⟩:=p
 have hb:=hq.below ((Below.refl _ _).alloc (Nat.le_refl _) (.cells #[.int .i64 slot,.int .i64 room] 99))
 obtain ⟨c0,c1,_,_,_⟩:=hb.cells
 clear hq hb
 unfold lostB
 simp only
 have HA:=Lh (fun W=>wwithin_any slot s.slots.length W)
 have HR:=Lh (fun W=>wwithin_any room s.rooms.length W)
 generalize (decide (0<=slot)&&decide (slot<(s.slots.length:Int)))=a at HA ⊢
 generalize (decide (0<=room)&&decide (room<(s.rooms.length:Int)))=b at HR ⊢
 cases a
 ·go_enter Tryz.func95,Tryz.ntmps95
  go_wp2_with fail
  refine (HA.out _).mono ?_
  rintro e w' ⟨rfl,rfl⟩
  go_wp2_with fail
  go_ret
  exact ⟨by simp,(Below.refl _ _).alloc (Nat.le_refl _) _⟩
 ·go_enter Tryz.func95,Tryz.ntmps95
  go_wp2_with fail
  refine (HA.out _).mono ?_
  rintro e w' ⟨rfl,rfl⟩
  go_wp2_with fail
  refine (HR.out _).mono ?_
  rintro e w' ⟨rfl,rfl⟩
  go_wp2_with fail
  go_ret
  exact ⟨by simp,(Below.refl _ _).alloc (Nat.le_refl _) _⟩
theorem places_lost (l:List Plc) (y:SlA) (s:Schl) (x:SchA) (q:Nat) (w:World) (hy:SlIn w (·<w.heap.size) (l.map Plc.toD) y) (hl:l.length<=2000000) (hq:SchBox w q s x) :
  Calls Tryz.prog 96 #[.slice y.a l.length y.cap,.func (.func 95) #[] #[.pointer (some ⟨q,0,none⟩)]] w fun e w'=>e=.returned (.bool (l.any (lostB s)))/\Below w.heap.size w w':=by
 obtain ⟨g1,_,_,g4,_⟩:=hy.flat Plc.flatT
 rw [<- any_range]
 refine containsFunc_Plc 95 #[.pointer (some ⟨q,0,none⟩)] (fun j=>(l[j]?.map (lostB s)).getD false) l.length (fun j=>.int .i64 ((l[j]?.map (·.slot)).getD 0)) (fun j=>.int .i64 ((l[j]?.map (·.room)).getD 0)) y.a y.b y.o y.cap w g1 ?_ ?_ (fun _ _=>enters_of Tryz.func95 (by kernel_rfl) rfl _ _) hl
 ·intro j hj
  have h:=g4.two j hj rfl
  rw [List.getElem?_eq_getElem hj]
  exact h
 ·intro j hj W hW
  rw [List.getElem?_eq_getElem hj]
  exact lost_any l[j] s x q W (hq.below hW)

theorem wcheck_any (s:Schl) (x:SchA) (l:List Plc) (y:SlA) (w:World) (hI:ItoaAt) (hs:SchIn w (·<w.heap.size) s x) (hf:SchFit s) (hy:SlIn w (·<w.heap.size) (l.map Plc.toD) y) (hl:l.length<=2000000) (hg:GG w) :
  Calls Tryz.prog 51 #[.agg (x.cells s).toArray,.agg #[.slice y.a l.length y.cap]] w fun e w'=>e=.returned (.int .i64 (weekCheck s l))/\Below w.heap.size w w':=by
 have hba:Below w.heap.size w ((w.alloc (.cells (x.cells s).toArray 28)).alloc (.cells #[.slice y.a l.length y.cap] 50)):=((Below.refl _ _).alloc (Nat.le_refl _) _).alloc (by simp) _
 have hbx:SchBox ((w.alloc (.cells (x.cells s).toArray 28)).alloc (.cells #[.slice y.a l.length y.cap] 50)) w.heap.size s x:=by unfold SchBox;rw [heap_get,if_neg (by simp),heap_get,if_pos rfl]
 have hby:((w.alloc (.cells (x.cells s).toArray 28)).alloc (.cells #[.slice y.a l.length y.cap] 50)).heap[w.heap.size+1]?=some (.cells #[.slice y.a l.length y.cap] 50 (0,0)):=by rw [heap_get,if_pos (by simp)]
 have HSC:=Lh (scheck_any s x _ hI (hs.later hba hba.size) hf (hg.below hba))
 have HPL:=Lh (fun (W:World) (hW:Below w.heap.size w W) (hq:SchBox W w.heap.size s x)=>places_lost l y s x w.heap.size W (hy.later hW hW.size) hl hq)
 have HR:Hid (weekCheck s l=if schCheck s ≠ 0 then schCheck s else if l.length ≠ s.lessons.length∨l.any (lostB s)=true then 40 else 0):=Lh rfl
 have HB:=Lh (aI hba (aI hbx hby))
 have hmf:∀ (fn:Fn) (first cap:Array Value) (w:World),(Instr.makeFunc fn first cap).run Tryz.prog w=.ok (.func fn first cap) w:=fun _ _ _ _=>rfl
 clear hs hy hg hf hba hbx hby hI
 generalize weekCheck s l=res at HR ⊢
 generalize schCheck s=sc at HSC HR
 generalize l.any (lostB s)=an at HPL HR
 simp only [SchA.cells,SlA.val] at HSC HB ⊢
 have hd:(sc ≠ 0/\(sc != 0)=true)∨(sc=0/\(sc != 0)=false):=by by_cases h:sc=0 <;> simp [h]
 go_enter Tryz.func51,Tryz.ntmps51
 go_wp2_with fail
 refine HSC.out.mono ?_
 rintro e w1 ⟨rfl,hb1⟩
 have HB1:=Lh (aI (HB.out.1.trans (hb1.mono HB.out.1.size)) (aI (HB.out.2.1.below hb1) ((hb1.block (w.heap.size+1) (by simp)).trans HB.out.2.2)))
 clear hb1
 rcases hd with ⟨d1,d2⟩ | ⟨d1,d2⟩
 ·have HD:=Lh d1
  clear d1
  go_wp2_with fail
  go_ret
  exact ⟨ret_int (by rw [HR.out,if_pos HD.out]),HB1.out.1⟩
 subst d1
 clear d2
 have b4:=HB1.out.2.1.cells.2.2.2.2
 have c0:w1.cell? ⟨w.heap.size+1,0,none⟩=some (.slice y.a l.length y.cap):=cH HB1.out.2.2 rfl
 have hle:(l.length ≠ s.lessons.length/\((l.length:Int) != (s.lessons.length:Int))=true)∨(l.length=s.lessons.length/\((l.length:Int) != (s.lessons.length:Int))=false):=by
  by_cases h:l.length=s.lessons.length
  ·exact .inr ⟨h,by simp;omega⟩
  ·exact .inl ⟨h,by simp;omega⟩
 rcases hle with ⟨d1,d2⟩ | ⟨d1,d2⟩
 ·have HD:=Lh d1
  clear d1
  go_wp2_with fail
  go_ret
  exact ⟨ret_int (by rw [HR.out,if_neg (by simp),if_pos (.inl HD.out)]),HB1.out.1⟩
 have hpw:=HPL.out w1 HB1.out.1 HB1.out.2.1
 have HPW:=Lh hpw
 have HD:=Lh d1
 clear d1 hpw
 go_wp2_with fail
 refine HPW.out.mono ?_
 rintro e w2 ⟨rfl,hb2⟩
 have HB2:=Lh (HB1.out.1.trans (hb2.mono HB1.out.1.size))
 clear hb2
 cases an
 ·go_wp2_with fail
  go_ret
  exact ⟨ret_int (by rw [HR.out,if_neg (by simp),if_neg (by rw [HD.out];simp)]),HB2.out⟩
 ·go_wp2_with fail
  go_ret
  exact ⟨ret_int (by rw [HR.out,if_neg (by simp),if_pos (.inr (by first | rfl | trivial))]),HB2.out⟩
end Go.Proofs.YtjjkfgjnadaheaaGreatDoor
/- eval: binds, sizes, many. -/
namespace Go.Chalk
open Go.RowKit
theorem sizesF_take {s:Schl} {l:List Bnd} {j:Nat} (hj:j<l.length):sizesF s (l.take (j+1))=sizesF s (l.take j)++[schCount s l[j].sort]:=by
 unfold sizesF;rw [List.take_succ_eq_append_getElem hj,List.map_append];rfl
theorem evBinds_take {l:List Ev} {j:Nat} (hj:j<l.length):evBinds (l.take (j+1))=evBinds (l.take j)++[⟨l[j].name,l[j].sort⟩]:=by
 unfold evBinds;rw [List.take_succ_eq_append_getElem hj,List.map_append];rfl
def nats (l:List Nat):List Int:=l.map (fun (n:Nat)=>(n:Int))
theorem nats_append (a b:List Nat):nats (a++b)=nats a++nats b:=by simp [nats]
@[simp] theorem nats_length (a:List Nat):(nats a).length=a.length:=by simp [nats]
theorem fold_take {l:List Nat} {j:Nat} (hj:j<l.length):(l.take (j+1)).foldl timesF 1=timesF ((l.take j).foldl timesF 1) l[j]:=by
 rw [List.take_succ_eq_append_getElem hj,List.foldl_append];rfl
theorem nats_one (k:Nat):dints (nats [k])=[D.int .i64 k]:=rfl
variable {P:Program}
theorem wpList_append_one' {W0:World} {B:Nat} (hB:W0.heap.size=B) {lo:Nat} {F:Nat->Prop} {ops:Array Oper} {rest:List Oper} {o:Oper} {a:Act} {Q:Exit->Act->World->Prop} (hgd:o.guard=none) (s x:Operand) (t:TypeId)
  (ho:o.op=.call { callee:=.builtin .append,args:=#[s,x],argTypes:=#[t,t] }) (e:TypeId) (i:TypeInfo) (z:Value) (size bytes:Nat) (ht:P.underlying t=some (.slice e)) (hi:P.info? e=some i) (hz:i.zero=some z)
  (hsize:i.size=size) (hby:i.bytes=bytes) (hzs:z.cells.size=size) (hsz:0<size) (v:Value) (xs:List D) (y:D) (cs:List Value) (T:TypeId) (hs:a.eval s=v) (hx:a.eval x=.slice (some ⟨B,0,none⟩) 1 1)
  (hv:Onto1 W0 lo F e size v xs) (hd:DsAt W0 F [y] cs) (hlo:lo<=W0.heap.size) (hw:y.width=size) (hwx:widths xs=xs.length*size) (h63:xs.length+1<=maxLen) (hbytes:(xs.length+1)*bytes<=140737488355328)
  (h:∀ ao cap w',Onto1 w' lo F e size (.slice ao (xs.length+1) cap) (xs++[y])->Below lo W0 w'->wpList P ops Q rest (a.put o.dst (.slice ao (xs.length+1) cap)) w') :
  wpList P ops Q (o :: rest) a (W0.alloc (.cells cs.toArray T)) :=
 wpList_append_one hgd s x t ho e i z size bytes ht hi hz hsize hby hzs hsz v xs y cs T hs (by rw [hx,hB]) hv hd hlo hw hwx h63 hbytes h
def OwnN (w:World) (lo:Nat) (F:Nat->Prop) (e:TypeId) (sz:Nat) (v:Value) (xs:List D):Prop:=∃ r,Own w F e sz v r xs/\∀ k,r=some k->lo<=k
theorem OwnN.onto {w:World} {lo:Nat} {F:Nat->Prop} {e:TypeId} {sz:Nat} {v:Value} {xs:List D} (h:OwnN w lo F e sz v xs):Onto1 w lo F e sz v xs:=.inr h
theorem OwnN.nil (w:World) (lo:Nat) (F:Nat->Prop) (e:TypeId) (sz:Nat) (lt:∀ k,F k->k<w.heap.size):OwnN w lo F e sz (.slice none 0 0) []:=⟨none,Own.nil _ _ _ _ lt,fun _ h=>by cases h⟩
theorem OwnN.below {w w':World} {lo:Nat} {F:Nat->Prop} {e:TypeId} {sz:Nat} {v:Value} {xs:List D} (h:OwnN w lo F e sz v xs) (hb:Below w.heap.size w w'):OwnN w' lo F e sz v xs:=by
 obtain ⟨r,h1,h2⟩:=h;exact ⟨r,h1.below hb,h2⟩
theorem OwnN.form {w:World} {lo:Nat} {F:Nat->Prop} {e:TypeId} {sz:Nat} {v:Value} {xs:List D} (h:OwnN w lo F e sz v xs):∃ a cap,v=.slice a xs.length cap:=by
 obtain ⟨r,h1,_⟩:=h;exact h1.form
theorem wpList_append_oneO {W0:World} {B:Nat} (hB:W0.heap.size=B) {lo:Nat} {F:Nat->Prop} {ops:Array Oper} {rest:List Oper} {o:Oper} {a:Act} {Q:Exit->Act->World->Prop} (hgd:o.guard=none) (s x:Operand) (t:TypeId)
  (ho:o.op=.call { callee:=.builtin .append,args:=#[s,x],argTypes:=#[t,t] }) (e:TypeId) (i:TypeInfo) (z:Value) (size bytes:Nat) (ht:P.underlying t=some (.slice e)) (hi:P.info? e=some i) (hz:i.zero=some z)
  (hsize:i.size=size) (hby:i.bytes=bytes) (hzs:z.cells.size=size) (hsz:0<size) (v:Value) (xs:List D) (y:D) (cs:List Value) (T:TypeId) (hs:a.eval s=v) (hx:a.eval x=.slice (some ⟨B,0,none⟩) 1 1)
  (hv:OwnN W0 lo F e size v xs) (hd:DsAt W0 F [y] cs) (hlo:lo<=W0.heap.size) (hw:y.width=size) (h63:xs.length+1<=maxLen) (hbytes:(xs.length+1)*bytes<=140737488355328)
  (h:∀ ao cap w',OwnN w' lo F e size (.slice ao (xs.length+1) cap) (xs++[y])->Below lo W0 w'->wpList P ops Q rest (a.put o.dst (.slice ao (xs.length+1) cap)) w') :
  wpList P ops Q (o :: rest) a (W0.alloc (.cells cs.toArray T)):=by
 obtain ⟨r,h1,h2⟩:=hv
 have hb:Below W0.heap.size W0 (W0.alloc (.cells cs.toArray T)):=(Below.refl _ _).alloc (Nat.le_refl _) _
 have hnb:(W0.alloc (.cells cs.toArray T)).heap[W0.heap.size]?=some (.cells cs.toArray T (0,0)):=boxed (B:=W0.heap.size+1) (Below.refl _ _) (by omega)
 have hnews:∀ j u,cs[j]?=some u->(W0.alloc (.cells cs.toArray T)).cell? ((⟨W0.heap.size,0,none⟩:Addr).add j)=some u:=fun j u hu=>by
  have hc:=cH (i:=j) hnb (v:=u) (by simpa using hu)
  unfold Addr.add
  by_cases h0:j=0
  ·subst h0;simpa using hc
  ·rw [if_neg h0];simpa using hc
 have hlen:cs.length=1*size:=by
  have:=DsAt.length _ _ hd
  rw [this];simp [widths,hw]
 have hd':DsAt (W0.alloc (.cells cs.toArray T)) F [y] cs:=DsAt.agree ((agree_of_below hb).mono h1.lt) _ _ hd
 have h1':=h1.alloc (.cells cs.toArray T)
 obtain ⟨cs0,k1,k2⟩:=h1'.cells
 refine wpList_append_lies (W0.alloc (.cells cs.toArray T)) hgd s x t ho 0 e i z size bytes ht hi hz hsize hby hzs hsz v xs.length cs0 hs k1 ⟨W0.heap.size,0,none⟩ 1 1 cs (by rw [hx,hB]) hlen hnews (DsAt.one _ _ hd) (by omega) h63 hbytes (Nat.zero_le _) _ rfl (fun g cap w' hown hgr hat hlt=>?_)
 obtain ⟨g1,g2,g3⟩:=h1'.appended (ys:=[y]) k2 hown hgr (by rcases hat with h | h;exact .inl h.symm;exact .inr (by rw [h];rfl)) hd'
 have hm0:Mod (fun k=>r=some k) W0 w':=(Mod.of_below (S:=fun k=>r=some k) hb).trans g2 (fun _ _ h=>h)
 refine h _ _ _ ⟨_,g1,fun k hk=>?_⟩ (hm0.below hlo (fun k hk=>h2 k hk))
 rcases g3 with g3 | g3
 ·rw [g3] at hk;exact h2 k hk
 ·rw [g3] at hk;simp at hk;omega
end Go.Chalk
namespace Go.Proofs.YtjjkfgjnadaheaaGreatDoor
open Go.RowKit Go.Chalk
theorem count_le {s:Schl} (hsm:SchSmall s) (sort:Int):schCount s sort<=2000000:=by
 have h1:=hsm.slots;have h2:=hsm.rooms;have h3:=hsm.people;have h4:=hsm.groups;have h5:=hsm.lessons
 rw [schCount_eq]
 repeat' split
 all_goals omega

theorem ebinds_any (l:List Ev) (x:SlA) (w:World) (hx:SlIn w (·<w.heap.size) (l.map Ev.toD) x) (hl:l.length<=2000000) :
  Calls Tryz.prog 54 #[.slice x.a l.length x.cap] w fun e w'=>∃ v,e=.returned v/\Onto1 w' w.heap.size (fun _=>False) 149 2 v ((evBinds l).map Bnd.toD)/\Below w.heap.size w w':=by
 obtain ⟨g1,_,_,g4,g5⟩:=hx.flat Ev.flatT
 have HC:=Lh g4
 have HFN:=Lh g5
 obtain ⟨i0,hi,hz0,hz1,hz2⟩:=info_parts infoBnd
 clear hx g4 g5
 go_enter Tryz.func54,Tryz.ntmps54
 go_wp2_with fail
 go_loopw [3,8] (fun v i wr=>∃ j:Nat,j<=l.length/\i=.int .i64 j/\Below w.heap.size w wr/\Hid (Onto1 wr w.heap.size (fun _=>False) 149 2 v ((evBinds (l.take j)).map Bnd.toD))) (fun _ i _=>l.length - (intOf i).toNat)
 case atStart=>exact ⟨0,Nat.zero_le _,rfl,Below.refl _ _,Lh (Onto1.nil _ _ _ _ _ (fun _ h=>h.elim))⟩
 case round =>
  obtain ⟨j,hj,rfl,hb,HO⟩:=hrel
  by_cases hlt:j<l.length
  ·obtain ⟨oa,ocap,ho⟩:=HO.out.form
   subst ho
   have hlen:((evBinds (l.take j)).map Bnd.toD).length=j:=by simp [evBinds];omega
   rw [hlen] at HO ⊢
   obtain ⟨hxa,hbl⟩:=g1 (by omega)
   obtain ⟨q0,q1,q2⟩:=HC.out.three j hlt rfl
   have e0:=(hb.cell (p:=⟨x.b,x.o+j*3,none⟩) hbl).trans q0
   have e1:=(hb.cell (p:=⟨x.b,x.o+j*3+1,none⟩) hbl).trans q1
   have e2:=(hb.cell (p:=⟨x.b,x.o+j*3+2,none⟩) hbl).trans q2
   have HFJ:=Lh (HFN.out _ (List.getElem_mem hlt))
   have HT:=Lh (evBinds_take hlt)
   have hb1:Below wr.heap.size wr (wr.alloc (.cells #[.string ⟨l[j].name.toArray⟩,.int .i64 l[j].sort,.int .i64 l[j].at_] 76)):=(Below.refl _ _).alloc (Nat.le_refl _) _
   have HO1:=Lh (HO.out.below hb1)
   have HB1:=Lh (hb.trans (hb1.mono hb.size))
   have HLN:=Lh hlen
   rw [hxa]
   clear q0 q1 q2 hb1 hlen
   generalize evBinds (l.take j)=bs at HO HO1 HT HLN
   generalize l[j]=ev at HFJ HT HO1 HB1 e0 e1 e2
   obtain ⟨nm,so,at_⟩:=ev
   simp only at HT HO1 HB1 e0 e1 e2
   go_wp2_with (at_builtin;go_must (refine wpList_append_one' (B:=wr.heap.size+1) (by simp) rfl _ _ 31 rfl 149 i0 _ 2 24 Tryz.underlying31 hi hz0 hz1 hz2 rfl (by decide) (.slice oa j ocap) (bs.map Bnd.toD) (Bnd.toD ⟨nm,so⟩) [.string ⟨nm.toArray⟩,.int .i64 so] 149 rfl rfl HO1.out (DsAt.flat1 (Bnd.flatT.flat _) ⟨HFJ.out.1,HFJ.out.2.1,trivial⟩) (by have:=HB1.out.size;omega) rfl (by rw [widths_map Bnd.flatT,List.length_map]) (by rw [HLN.out];unfold maxLen;omega) (by rw [HLN.out];omega) ?_);intro ao cap w5 hon hb5;rw [HLN.out] at hon ⊢;have HON:=Lh (aI hon (HB1.out.trans hb5));clear hon hb5)
   refine ⟨⟨j+1,by omega,by go_num,HON.out.2,Lh ?_⟩,by simp [intOf];omega⟩
   rw [HT.out,List.map_append];exact HON.out.1
  ·have HL:Hid (l.take j=l):=Lh (List.take_of_length_le (by omega))
   go_wp2_with fail
   go_ret
   refine ⟨_,rfl,?_,hb⟩
   have:=HO.out
   rw [HL.out] at this;exact this

theorem esizes_any (s:Schl) (x:SchA) (l:List Bnd) (y:SlA) (w:World) (hI:ItoaAt) (hs:SchIn w (·<w.heap.size) s x) (hsm:SchSmall s) (hy:SlIn w (·<w.heap.size) (l.map Bnd.toD) y) (hl:l.length<=2000000) :
  Calls Tryz.prog 176 #[.agg (x.cells s).toArray,.slice y.a l.length y.cap] w fun e w'=>∃ v,e=.returned v/\OwnN w' (w.heap.size+1) (fun _=>False) 3 1 v (dints (nats (sizesF s l)))/\Below w.heap.size w w':=by
 obtain ⟨g1,_,_,g4,_⟩:=hy.flat Bnd.flatT
 have HC:=Lh g4
 have HCT:=Lh (fun (sort:Int) (W:World) (hW:Below w.heap.size w W)=>count_any s x sort W hI (hs.later hW hW.size) hsm)
 have HLE:=Lh (fun sort=>count_le hsm sort)
 have hbx:SchBox (w.alloc (.cells (x.cells s).toArray 28)) w.heap.size s x:=by unfold SchBox;rw [heap_get,if_pos rfl]
 have HBX:=Lh hbx
 obtain ⟨i0,hi,hz0,hz1,hz2⟩:=info_parts infoInt
 clear hy hs g4 hsm hI hbx
 simp only [SchA.cells,SlA.val] at HCT HBX ⊢
 go_enter Tryz.func176,Tryz.ntmps176
 go_wp2_with fail
 go_loopw [5,10] (fun v i wr=>∃ j:Nat,j<=l.length/\i=.int .i64 j/\Below w.heap.size w wr/\Hid (SchBox wr w.heap.size s x)/\Hid (OwnN wr (w.heap.size+1) (fun _=>False) 3 1 v (dints (nats (sizesF s (l.take j)))))) (fun _ i _=>l.length - (intOf i).toNat)
 case atStart=>exact ⟨0,Nat.zero_le _,rfl,(Below.refl _ _).alloc (Nat.le_refl _) _,HBX,Lh (OwnN.nil _ _ _ _ _ (fun _ h=>h.elim))⟩
 case round =>
  obtain ⟨j,hj,rfl,hb,HBX,HO⟩:=hrel
  by_cases hlt:j<l.length
  ·obtain ⟨oa,ocap,ho⟩:=HO.out.form
   subst ho
   have hlen:(dints (nats (sizesF s (l.take j)))).length=j:=by simp [sizesF];omega
   rw [hlen] at HO ⊢
   obtain ⟨hxa,hbl⟩:=g1 (by omega)
   obtain ⟨q0,q1⟩:=HC.out.two j hlt rfl
   have e0:=(hb.cell (p:=⟨y.b,y.o+j*2,none⟩) hbl).trans q0
   have e1:=(hb.cell (p:=⟨y.b,y.o+j*2+1,none⟩) hbl).trans q1
   have HT:=Lh (sizesF_take (s:=s) hlt)
   have hb1:Below wr.heap.size wr (wr.alloc (.cells #[.string ⟨l[j].name.toArray⟩,.int .i64 l[j].sort] 149)):=(Below.refl _ _).alloc (Nat.le_refl _) _
   have HO1:=Lh (HO.out.below hb1)
   have HB1:=Lh (hb.trans (hb1.mono hb.size))
   have hsb:=HBX.out.below hb1
   have HSB:=Lh hsb
   obtain ⟨c0,c1,c2,c3,c4⟩:=hsb.cells
   have HLN:=Lh hlen
   have HCJ:=Lh (HCT.out l[j].sort _ HB1.out)
   rw [hxa]
   clear q0 q1 hb1 hlen hsb
   generalize sizesF s (l.take j)=bs at HO HO1 HT HLN
   generalize l[j]=ev at HT HO1 HB1 HSB HCJ e0 e1 c0 c1 c2 c3 c4
   obtain ⟨nm,so⟩:=ev
   simp only at HT HO1 HB1 HSB HCJ e0 e1 c0 c1 c2 c3 c4
   have HLS:=Lh (HLE.out so)
   generalize schCount s so=k at HCJ HT HLS
   go_wp2_with fail
   refine HCJ.out.mono ?_
   rintro e w1 ⟨rfl,hb2⟩
   have HO2:=Lh (HO1.out.below hb2)
   have HB2:=Lh (aI (HB1.out.trans (hb2.mono HB1.out.size)) (HSB.out.below hb2))
   clear hb2
   go_wp2_with (at_builtin;go_must (refine wpList_append_oneO rfl rfl _ _ 90 rfl 3 i0 _ 1 8 Tryz.underlying90 hi hz0 hz1 hz2 rfl (by decide) (.slice oa j ocap) (dints (nats bs)) (.int .i64 k) [.int .i64 k] 3 rfl rfl HO2.out (DsAt.flat1 (x:=.int .i64 k) rfl (I64.wf (by have:=HLS.out;exact i64_small (by omega) (by omega)))) (by have:=HB2.out.2.lt;omega) rfl (by rw [HLN.out];unfold maxLen;omega) (by rw [HLN.out];omega) ?_);intro ao cap w5 hon hb5;rw [HLN.out] at hon ⊢;have HON:=Lh (aI hon (aI (HB2.out.1.trans (hb5.mono (by omega))) (show SchBox w5 w.heap.size s x from (hb5.block _ (by omega)).trans HB2.out.2)));clear hon hb5)
   refine ⟨⟨j+1,by omega,by go_num,HON.out.2.1,Lh HON.out.2.2,Lh ?_⟩,by simp [intOf];omega⟩
   rw [HT.out,nats_append,dints_append,nats_one];exact HON.out.1
  ·have HL:Hid (l.take j=l):=Lh (List.take_of_length_le (by omega))
   go_wp2_with fail
   go_ret
   refine ⟨_,rfl,?_,hb⟩
   have:=HO.out
   rw [HL.out] at this;exact this
end Go.Proofs.YtjjkfgjnadaheaaGreatDoor
