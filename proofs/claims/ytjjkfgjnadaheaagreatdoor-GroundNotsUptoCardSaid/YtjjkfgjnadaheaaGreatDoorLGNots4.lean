/- Joined texts: NnfP, Nnf, WGNots. -/
import Derived.Test.YtjjkfgjnadaheaaGreatDoorLGNots2
import Derived.Test.YtjjkfgjnadaheaaGreatDoorLGNots3
import Derived.Test.YtjjkfgjnadaheaaGreatDoorB37
set_option maxHeartbeats 16000000
set_option maxRecDepth 100000
set_option linter.unusedVariables false
set_option linter.unusedSimpArgs false
/- A formula's negation normal form is of bounded size and fits. -/
namespace Go.Proofs.YtjjkfgjnadaheaaGreatDoor
open Go.RowKit Go.Chalk
theorem leaf_sm (k:Int):FrmSm (.mk k [] 0 [] [] []):=⟨by simp [Frm.terms],by simp [Frm.binds],by simp [Frm.l],by simp [Frm.name],by simp [Frm.terms],by simp [Frm.binds]⟩
theorem leaf_nodes (k:Int):∀ g∈nodesF (.mk k [] 0 [] [] []),FrmSm g:=by
 intro g hg
 rw [nodesF,nodesL] at hg
 obtain rfl:=List.mem_singleton.1 hg
 exact leaf_sm k
theorem leaf_size (k:Int):(Frm.mk k [] 0 [] [] []).size=1:=by rw [Frm.size,fsizes]
structure NnfL (l r:List Frm):Prop where
 len:r.length=l.length
 size:∀ j (h:j<l.length) (h':j<r.length),r[j].size<=3*l[j].size
 sizes:fsizes r<=3*fsizes l
 nodes:∀ g∈nodesL r,FrmSm g
theorem nnfL_head {l r:List Frm} (h:NnfL l r) (k:Nat):((r.drop k).headD zeroFrm).size<=3*fsizes (l.drop k)+1/\∀ g∈nodesF ((r.drop k).headD zeroFrm),FrmSm g:=by
 have hl:=h.len
 by_cases hk:k<r.length
 ·have e:(r.drop k).headD zeroFrm=r[k]:=by rw [List.drop_eq_getElem_cons hk];rfl
  rw [e,List.drop_eq_getElem_cons (show k<l.length by omega),fsizes]
  exact ⟨by have:=h.size k (by omega) hk;omega,fun g hg=>h.nodes g (nodesL_mem hk g hg)⟩
 ·have e:(r.drop k).headD zeroFrm=zeroFrm:=by rw [List.drop_of_length_le (by omega)];rfl
  rw [e]
  exact ⟨by unfold zeroFrm;rw [leaf_size];omega,leaf_nodes 0⟩
theorem node_sm {kind kind':Int} {name name':Bs} {n n':Int} {terms:List Trm} {binds:List Bnd} {l r:List Frm} (h:FrmSm (.mk kind name n terms binds l)) (hl:r.length=l.length) (hn:name'.length<=name.length∨name'.length<=2):FrmSm (.mk kind' name' n' terms binds r):=by
 obtain ⟨h1,h2,h3,h4,h5,h6⟩:=h
 simp only [Frm.terms,Frm.binds,Frm.l,Frm.name] at h1 h2 h3 h4 h5 h6
 exact ⟨h1,h2,by simpa [Frm.l,hl] using h3,by simp only [Frm.name];omega,h5,h6⟩
theorem rightNode_fit {kind:Int} {name:Bs} {n:Int} {terms:List Trm} {binds:List Bnd} {l same flip:List Frm} (turn:Bool) (h:∀ g∈nodesF (.mk kind name n terms binds l),FrmSm g) (hs:NnfL l same) (hf:NnfL l flip) :
  (rightNode kind name n terms binds l same flip turn).size<=3*(Frm.mk kind name n terms binds l).size/\∀ g∈nodesF (rightNode kind name n terms binds l same flip turn),FrmSm g:=by
 have h0:=h _ (by rw [nodesF];exact List.mem_cons_self)
 have hl:∀ g∈nodesL l,FrmSm g:=fun g hg=>h g (by rw [nodesF];exact List.mem_cons_of_mem _ hg)
 rw [Frm.size]
 unfold rightNode
 split
 ·exact ⟨by unfold noFrm;rw [leaf_size];omega,leaf_nodes 2⟩
 split
 ·exact ⟨by unfold yesFrm;rw [leaf_size];omega,leaf_nodes 1⟩
 split
 ·have:=nnfL_head hf 0
  rw [List.drop_zero,List.drop_zero] at this
  exact ⟨by omega,this.2⟩
 split
 ·have a:=nnfL_head hf 0
  have b:=nnfL_head hs 1
  rw [List.drop_zero,List.drop_zero] at a
  have hz:(flip.headD zeroFrm).size+((same.drop 1).headD zeroFrm).size<=3*fsizes l+2:=by
   cases l with
   | nil=>simp only [List.drop_nil,fsizes] at a b ⊢;omega
   | cons x r =>
    cases flip with
    | nil=>have:=hf.len;simp at this
    | cons y q =>
     have hx:=hf.size 0 (by simp) (by simp)
     simp only [List.getElem_cons_zero] at hx
     simp only [List.drop_succ_cons,List.drop_zero] at b
     rw [fsizes,List.headD_cons]
     omega
  refine ⟨by rw [Frm.size,fsizes,fsizes,fsizes];omega,fun g hg=>?_⟩
  rw [nodesF,nodesL,nodesL,nodesL,List.append_nil] at hg
  rcases List.mem_cons.1 hg with rfl | hg
  ·exact ⟨by simp [Frm.terms],by simp [Frm.binds],by simp [Frm.l],by simp [Frm.name],by simp [Frm.terms],by simp [Frm.binds]⟩
  ·rcases List.mem_append.1 hg with hg | hg
   ·exact a.2 g hg
   ·exact b.2 g hg
 split
 ·refine ⟨by rw [Frm.size,fsizes,fsizes,Frm.size];omega,fun g hg=>?_⟩
  rw [nodesF,nodesL,nodesL,List.append_nil] at hg
  rcases List.mem_cons.1 hg with rfl | hg
  ·exact ⟨by simp [Frm.terms],by simp [Frm.binds],by simp [Frm.l],by simp [Frm.name],by simp [Frm.terms],by simp [Frm.binds]⟩
  ·exact h g hg
 ·have hn:∀ (c:Bool),(if c then negS name else name).length<=name.length∨(if c then negS name else name).length<=2:=fun c=>by
   split
   ·exact .inr (negS_len name)
   ·exact .inl (Nat.le_refl _)
  have hx:NnfL l (if (turn&&countK kind)=true then flip else same):=by
   split
   ·exact hf
   ·exact hs
  refine ⟨by rw [Frm.size];have:=hx.sizes;omega,fun g hg=>?_⟩
  rw [nodesF] at hg
  rcases List.mem_cons.1 hg with rfl | hg
  ·exact node_sm h0 hx.len (hn _)
  ·exact hx.nodes g hg
mutual
theorem right_fit:∀ (f:Frm) (turn:Bool),(∀ g∈nodesF f,FrmSm g)->(rightF f turn).size<=3*f.size/\∀ g∈nodesF (rightF f turn),FrmSm g
 | .mk kind name n terms binds l,turn,h=>by
  rw [rightF]
  have hl:∀ g∈nodesL l,FrmSm g:=fun g hg=>h g (by rw [nodesF];exact List.mem_cons_of_mem _ hg)
  exact rightNode_fit turn h (rightL_fit l turn hl) (rightL_fit l (!turn) hl)
theorem rightL_fit:∀ (l:List Frm) (turn:Bool),(∀ g∈nodesL l,FrmSm g)->NnfL l (rightL l turn)
 | [],turn,_=>by
  rw [rightL]
  exact ⟨rfl,fun j h=>by simp at h,by rw [fsizes];omega,fun g hg=>by rw [nodesL] at hg;cases hg⟩
 | f :: r,turn,h=>by
  have h1:=right_fit f turn (fun g hg=>h g (by rw [nodesL];exact List.mem_append_left _ hg))
  have h2:=rightL_fit r turn (fun g hg=>h g (by rw [nodesL];exact List.mem_append_right _ hg))
  rw [rightL]
  refine ⟨by rw [List.length_cons,List.length_cons,h2.len],fun j hj hj'=>?_,by rw [fsizes,fsizes];have:=h1.1;have:=h2.sizes;omega,fun g hg=>?_⟩
  ·cases j with
   | zero=>exact h1.1
   | succ j=>exact h2.size j (by simpa using hj) (by simpa using hj')
  ·rw [nodesL] at hg
   rcases List.mem_append.1 hg with hg | hg
   ·exact h1.2 g hg
   ·exact h2.nodes g hg
end
theorem FrmFit.right {f:Frm} (h:FrmFit f) (hs:f.size<=600000) (turn:Bool):FrmFit (rightF f turn) :=
 ⟨by have:=(right_fit f turn h.nodes).1;omega,(right_fit f turn h.nodes).2⟩
theorem FrmFit.nnf {f:Frm} (h:FrmFit f):FrmFit (nnfF f).1:=by
 unfold nnfF
 split
 ·exact ⟨by unfold zeroFrm;rw [leaf_size];omega,leaf_nodes 0⟩
 ·rename_i hc
  have hz:=frmCheck_zero.1 (Decidable.byContradiction hc)
  exact h.right (by have:=hz.2.1;omega) false
end Go.Proofs.YtjjkfgjnadaheaaGreatDoor
/- formula.Nnf. (written by tools/gen_nnf.py) -/
namespace Go.Proofs.YtjjkfgjnadaheaaGreatDoor
open Go.RowKit Go.Chalk
def NnfPost (w:World) (r:Frm×Int) (e:Ending) (w':World):Prop:=∃ u:FrmA,e=.returned (.tuple #[ndV (r.1,u),.int .i64 r.2])/\FrmIn w' (·<w'.heap.size) r.1 u/\Below w.heap.size w w'
theorem NnfPost.of {w W:World} {B:Nat} {r:Frm} {c:Int} {u:FrmA} {e:Ending} (h1:e=.returned (.tuple #[ndV (r,u),.int .i64 c])) (h2:FrmIn W (Nw B w W) r u/\Below w.heap.size w W):NnfPost w (r,c) e W :=
 ⟨u,h1,h2.1.mono (fun _ hk=>hk.2),h2.2⟩

theorem nnf_any (f:Frm) (x:FrmA) (w:World) (hx:FrmIn w (·<w.heap.size) f x) (hf:FrmFit f) (hg:G2 w) :
  Calls Tryz.prog 25 #[ndV (f,x)] w (NnfPost w (nnfF f)):=by
 have HCK:=Lh (fun (W:World) (hW:Below w.heap.size w W)=>fcheck_any f x W (hx.later hW hW.size) hf (hg.gg.below hW))
 have HRT:=Lh (fun (hc:frmCheck f=0) (W:World) (hW:Below w.heap.size w W)=>right_any f.size f x false W w.heap.size (Nat.le_refl _) hW.size (hg.below hW) hf (frmCheck_zero.1 hc).1 (hx.agree (agree_of_below hW)))
 obtain ⟨W0,hW0⟩:∃ W0,W0=(w.alloc (.cells (x.cells f).toArray 34)).alloc (.cells #[.int .i64 0,.string ⟨#[]⟩,.int .i64 0,.slice none 0 0,.slice none 0 0,.slice none 0 0] 34):=⟨_,rfl⟩
 have hb0:Below w.heap.size w W0:=by rw [hW0];exact ((Below.refl _ _).alloc (Nat.le_refl _) _).alloc (by first | (simp;done) | (simp;omega)) _
 have hq0:FrmBox W0 (w.heap.size) f x:=by rw [hW0];unfold FrmBox;rw [heap_get,if_neg (by first | (simp;done) | (simp;omega)),heap_get,if_pos (by first | rfl | (simp;done))]
 have hq1:W0.heap[w.heap.size+1]?=some (.cells #[.int .i64 0,.string ⟨#[]⟩,.int .i64 0,.slice none 0 0,.slice none 0 0,.slice none 0 0] 34 (0,0)):=by rw [hW0];rw [heap_get,if_pos (by first | rfl | (simp;done))]
 have HE:Hid (∀ w',Below W0.heap.size W0 w'->Below w.heap.size w w'/\(w'.cell? ⟨w.heap.size,0,none⟩=some (.int .i64 f.kind)/\w'.cell? ⟨w.heap.size,1,none⟩=some (.string ⟨f.name.toArray⟩)/\w'.cell? ⟨w.heap.size,2,none⟩=some (.int .i64 f.n)/\w'.cell? ⟨w.heap.size,3,none⟩=some (.slice x.t.a f.terms.length x.t.cap)/\w'.cell? ⟨w.heap.size,4,none⟩=some (.slice x.b.a f.binds.length x.b.cap)/\w'.cell? ⟨w.heap.size,5,none⟩=some (.slice x.l.a f.l.length x.l.cap))/\w'.heap[w.heap.size+1]?=some (.cells #[.int .i64 0,.string ⟨#[]⟩,.int .i64 0,.slice none 0 0,.slice none 0 0,.slice none 0 0] 34 (0,0))):=Lh (fun W hW =>
  ⟨hb0.trans (hW.mono hb0.size),(hq0.below hW).cells,(hW.block _ (gS hq1).1).trans hq1⟩)
 have HB0:=Lh hb0
 have HZ0:Hid (W0.heap.size=w.heap.size+2):=Lh (by rw [hW0];simp)
 have HW0:=Lh hW0
 have HNE:Hid (frmCheck f ≠ 0->nnfF f=(zeroFrm,frmCheck f)):=Lh (fun h=>by unfold nnfF;rw [if_pos h])
 have HEQ:Hid (frmCheck f=0->nnfF f=(rightF f false,0)):=Lh (fun h=>by unfold nnfF;rw [if_neg (fun c=>c h)])
 clear hb0 hq0 hq1 hW0 hx hf hg
 generalize nnfF f=nr at HNE HEQ ⊢
 generalize rightF f false=rr at HRT HEQ
 generalize frmCheck f=fc at HCK HRT HNE HEQ
 simp only [ndV,FrmA.cells,SlA.val] at HCK HRT HW0 HE ⊢
 go_enter Tryz.func25,Tryz.ntmps25
 go_wp2_with fail
 rw [<- HW0.out]
 refine (HCK.out _ HB0.out).mono ?_
 rintro e w1 ⟨rfl,hb1⟩
 have H1:=Lh hb1
 clear hb1
 obtain ⟨_,⟨f0,f1,f2,f3,f4,f5⟩,y5⟩:=HE.out w1 H1.out
 by_cases hc:fc=0
 rotate_left
 ·obtain rfl:=HNE.out hc
  have fz0:w1.frozen? ⟨w.heap.size+1,0,none⟩=false:=fH y5
  have x0:w1.cell? ⟨w.heap.size+1,0,none⟩=some (.int .i64 0):=cH y5 rfl
  have fz1:w1.frozen? ⟨w.heap.size+1,1,none⟩=false:=fH y5
  have x1:w1.cell? ⟨w.heap.size+1,1,none⟩=some (.string ⟨#[]⟩):=cH y5 rfl
  have fz2:w1.frozen? ⟨w.heap.size+1,2,none⟩=false:=fH y5
  have x2:w1.cell? ⟨w.heap.size+1,2,none⟩=some (.int .i64 0):=cH y5 rfl
  have fz3:w1.frozen? ⟨w.heap.size+1,3,none⟩=false:=fH y5
  have x3:w1.cell? ⟨w.heap.size+1,3,none⟩=some (.slice none 0 0):=cH y5 rfl
  have fz4:w1.frozen? ⟨w.heap.size+1,4,none⟩=false:=fH y5
  have x4:w1.cell? ⟨w.heap.size+1,4,none⟩=some (.slice none 0 0):=cH y5 rfl
  have fz5:w1.frozen? ⟨w.heap.size+1,5,none⟩=false:=fH y5
  have x5:w1.cell? ⟨w.heap.size+1,5,none⟩=some (.slice none 0 0):=cH y5 rfl
  clear y5
  go_wp2_with fail
  refine bodyPost_ret (v:=.tuple #[.agg #[.int .i64 0,.string ⟨#[]⟩,.int .i64 0,.slice none 0 0,.slice none 0 0,.slice none 0 0],.int .i64 fc]) (by simp [results,Tryz.results25,go_sem, *]) rfl ?_
  rw [put6_eq]
  exact NnfPost.of (B:=w.heap.size) rfl (put6_fin (G:=fun _=>False) (HE.out _ H1.out).1 (Nat.le_succ _) (leaf_in _ 0 (i64_of (by decide))) (fun h=>h) (fun _ h=>h.elim))
 ·subst hc
  obtain rfl:=HEQ.out rfl
  have HRC:=Lh (HRT.out rfl)
  clear y5 HRT HCK HNE HEQ
  obtain ⟨rk,rn,rm,rt,rb,rl⟩:=rr
  go_wp2_with fail
  refine (HRC.out _ (HE.out _ H1.out).1).mono ?_
  rintro e w2 ⟨u,rfl,hu,hb2⟩
  have HU:=Lh (aI hu hb2)
  have H2:=Lh (H1.out.trans (hb2.mono H1.out.size))
  clear hb2 hu f0 f1 f2 f3 f4 f5
  obtain ⟨_,⟨f0,f1,f2,f3,f4,f5⟩,y5⟩:=HE.out w2 H2.out
  clear f0 f1 f2 f3 f4 f5
  have fz0:w2.frozen? ⟨w.heap.size+1,0,none⟩=false:=fH y5
  have x0:w2.cell? ⟨w.heap.size+1,0,none⟩=some (.int .i64 0):=cH y5 rfl
  have fz1:w2.frozen? ⟨w.heap.size+1,1,none⟩=false:=fH y5
  have x1:w2.cell? ⟨w.heap.size+1,1,none⟩=some (.string ⟨#[]⟩):=cH y5 rfl
  have fz2:w2.frozen? ⟨w.heap.size+1,2,none⟩=false:=fH y5
  have x2:w2.cell? ⟨w.heap.size+1,2,none⟩=some (.int .i64 0):=cH y5 rfl
  have fz3:w2.frozen? ⟨w.heap.size+1,3,none⟩=false:=fH y5
  have x3:w2.cell? ⟨w.heap.size+1,3,none⟩=some (.slice none 0 0):=cH y5 rfl
  have fz4:w2.frozen? ⟨w.heap.size+1,4,none⟩=false:=fH y5
  have x4:w2.cell? ⟨w.heap.size+1,4,none⟩=some (.slice none 0 0):=cH y5 rfl
  have fz5:w2.frozen? ⟨w.heap.size+1,5,none⟩=false:=fH y5
  have x5:w2.cell? ⟨w.heap.size+1,5,none⟩=some (.slice none 0 0):=cH y5 rfl
  clear y5
  simp only [ndV,FrmA.cells,SlA.val,Frm.kind,Frm.name,Frm.n,Frm.terms,Frm.binds,Frm.l]
  go_wp2_with fail
  refine bodyPost_ret (v:=.tuple #[.agg #[.int .i64 rk,.string ⟨rn.toArray⟩,.int .i64 rm,.slice u.t.a rt.length u.t.cap,.slice u.b.a rb.length u.b.cap,.slice u.l.a rl.length u.l.cap],.int .i64 0]) (by simp [results,Tryz.results25,go_sem, *]) rfl ?_
  rw [put6_eq]
  have z1:=(HE.out _ H1.out).1.size
  have z2:=HZ0.out
  have z3:=H1.out.size
  exact NnfPost.of (B:=w.heap.size) rfl (put6_fin (G:=Nw w.heap.size w1 w2) (HE.out _ H2.out).1 (Nat.le_succ _) HU.out.1 (fun h=>by have:=h.1;omega) (fun k hk=>⟨hk.1.imp id (fun h=>by omega),hk.2⟩))
end Go.Proofs.YtjjkfgjnadaheaaGreatDoor
/- GroundNots: where the listed variables hold what their text lays, the law returns true. -/
namespace Go.Proofs.YtjjkfgjnadaheaaGreatDoor
open Go.RowKit Go.Chalk
theorem alloc_new {W W':World} {f:Frm} {u:FrmA} (hW:W'=W.alloc (.cells #[.int .i64 f.kind,.string ⟨f.name.toArray⟩,.int .i64 f.n,.slice u.t.a f.terms.length u.t.cap,.slice u.b.a f.binds.length u.b.cap,.slice u.l.a f.l.length u.l.cap] 34)) (hu:FrmIn W (·<W.heap.size) f u) :
  Below W.heap.size W W'/\FrmBox W' W.heap.size f u/\FrmIn W' (·<W'.heap.size) f u:=by
 have hb:Below W.heap.size W W':=by
  rw [hW]
  exact (Below.refl _ _).alloc (Nat.le_refl _) _
 refine ⟨hb,?_,hu.later hb hb.size⟩
 rw [hW]
 unfold FrmBox
 rw [heap_get,if_pos rfl]

theorem gnots_walk (s:Schl) (x:SchA) (l:List Plc) (y:SlA) (env:List Ev) (z:SlA) (f:Frm) (fa:FrmA) (w:World) (hI:ItoaAt) (hf:SchFit s) (hff:FrmFit f) (hg2:G2 w) (hs:SchIn w (·<w.heap.size) s x) (hy:SlIn w (·<w.heap.size) (l.map Plc.toD) y) (hl:l.length<=2000000)
  (hz:SlIn w (·<w.heap.size) (env.map Ev.toD) z) (hel:env.length<=1200000) (hmax:∀ e∈env,e.name.length<=4000000) (hx:FrmIn w (·<w.heap.size) f fa) :
  Calls Tryz.prog 8 #[.agg (x.cells s).toArray,.slice z.a env.length z.cap,ndV (f,fa),.agg #[.slice y.a l.length y.cap]] w fun e w'=>e=.returned (.bool true)/\Below w.heap.size w w':=by
 have hg:=hg2.gg
 have HLV:=Lh (fun (W:World) (hW:Below w.heap.size w W)=>live10_any W hI (hg.below hW))
 have HFW:=Lh (fun (W:World) (hW:Below w.heap.size w W)=>few10_any s x env z f fa W (hs.later hW hW.size) hf.toSchSmall.lessons hff.size (hx.later hW hW.size))
 have HTR:=Lh (fun (W:World) (hW:Below w.heap.size w W)=>gTree_any s x f fa env z W hI hf (hs.later hW hW.size) (hg.below hW) hff hel hmax (hx.later hW hW.size) (hz.later hW hW.size))
 have HWT:=Lh (fun (W:World) (hW:Below w.heap.size w W)=>wtrue_any s x l y W hI hf (hg.below hW) (hs.later hW hW.size) (hy.later hW hW.size) hl)
 have HT2:=Lh (fun (qa:FrmA) (W:World) (hW:Below w.heap.size w W) (hq:FrmIn W (·<W.heap.size) (nnfF f).1 qa)=>gTree_any s x (nnfF f).1 qa env z W hI hf (hs.later hW hW.size) (hg.below hW) hff.nnf hel hmax hq (hz.later hW hW.size))
 have HNN:=Lh (fun (W:World) (hW:Below w.heap.size w W)=>nnf_any f fa W (hx.later hW hW.size) hff (hg2.below hW))
 have HPL:=Lh (gnots_plain s l env f)
 have HTL:=Lh (wkTrueF_len s l)
 obtain ⟨W0,hW0⟩:∃ W0,W0=((w.alloc (.cells (x.cells s).toArray 28)).alloc (.cells (fa.cells f).toArray 34)).alloc (.cells #[.slice y.a l.length y.cap] 50):=⟨_,rfl⟩
 have hb0:Below w.heap.size w W0:=by rw [hW0];exact (((Below.refl _ _).alloc (Nat.le_refl _) _).alloc (by simp) _).alloc (by simp;omega) _
 have hs0:SchBox W0 w.heap.size s x:=by rw [hW0];unfold SchBox;rw [heap_get,if_neg (by first | (simp;done) | (simp;omega)),heap_get,if_neg (by first | (simp;done) | (simp;omega)),heap_get,if_pos rfl]
 have hf0:FrmBox W0 (w.heap.size+1) f fa:=by rw [hW0];unfold FrmBox;rw [heap_get,if_neg (by first | (simp;done) | (simp;omega)),heap_get,if_pos (by simp)]
 have hk0:W0.heap[w.heap.size+1+1]?=some (.cells #[.slice y.a l.length y.cap] 50 (0,0)):=by rw [hW0,heap_get,if_pos (by simp)]
 have HE:Hid (∀ W,Below W0.heap.size W0 W->Below w.heap.size w W/\(W.cell? ⟨w.heap.size,0,none⟩=some (.slice x.slots.a s.slots.length x.slots.cap)/\W.cell? ⟨w.heap.size,1,none⟩=some (.slice x.rooms.a s.rooms.length x.rooms.cap)/\W.cell? ⟨w.heap.size,2,none⟩=some (.slice x.people.a s.people.length x.people.cap)/\W.cell? ⟨w.heap.size,3,none⟩=some (.slice x.groups.a s.groups.length x.groups.cap)/\W.cell? ⟨w.heap.size,4,none⟩=some (.slice x.lessons.a s.lessons.length x.lessons.cap)) /\
   (W.cell? ⟨w.heap.size+1,0,none⟩=some (.int .i64 f.kind)/\W.cell? ⟨w.heap.size+1,1,none⟩=some (.string ⟨f.name.toArray⟩)/\W.cell? ⟨w.heap.size+1,2,none⟩=some (.int .i64 f.n)/\W.cell? ⟨w.heap.size+1,3,none⟩=some (.slice fa.t.a f.terms.length fa.t.cap)/\W.cell? ⟨w.heap.size+1,4,none⟩=some (.slice fa.b.a f.binds.length fa.b.cap)/\W.cell? ⟨w.heap.size+1,5,none⟩=some (.slice fa.l.a f.l.length fa.l.cap)) /\
   W.cell? ⟨w.heap.size+1+1,0,none⟩=some (.slice y.a l.length y.cap)):=Lh (fun W hW =>
  ⟨hb0.trans (hW.mono hb0.size),(hs0.below hW).cells,(hf0.below hW).cells,cH ((hW.block _ (gS hk0).1).trans hk0) rfl⟩)
 have HB0:=Lh hb0
 have HZ0:Hid (W0.heap.size=w.heap.size+3):=Lh (by rw [hW0];simp)
 have HW0:=Lh hW0
 clear hb0 hs0 hf0 hk0 hW0 hI hf hff hg hg2 hs hy hl hz hel hmax hx
 generalize gTreeF s env f=T at HTR HPL
 generalize gTreeF s env (nnfF f).1=X at HT2 HPL
 generalize nnfF f=N at HT2 HNN HPL
 generalize wkTrueF s l=A at HWT HPL HTL
 obtain ⟨t,ec⟩:=T
 obtain ⟨t2,ic⟩:=X
 obtain ⟨q,nc⟩:=N
 obtain ⟨qk,qn,qm,qt,qb,ql⟩:=q
 obtain ⟨a,gc⟩:=A
 simp only at HPL HTL HT2 HNN
 simp only [ndV,SchA.cells,FrmA.cells,SlA.val] at HFW HTR HWT HW0 HE HT2 HNN ⊢
 go_enter Tryz.func8,Tryz.ntmps8
 go_wp2_with fail
 rw [<- HW0.out]
 refine (HLV.out _ HB0.out).mono ?_
 rintro e w1 ⟨rfl,hb1⟩
 have H1:=Lh hb1
 clear hb1
 obtain ⟨_,⟨c0,c1,c2,c3,c4⟩,⟨f0,f1,f2,f3,f4,f5⟩,d0⟩:=HE.out w1 H1.out
 go_wp2_with fail
 refine (HFW.out _ (HE.out _ H1.out).1).mono ?_
 rintro e w2 ⟨⟨b2,rfl⟩,hb2⟩
 have H2:=Lh (H1.out.trans (hb2.mono H1.out.size))
 clear hb2 c0 c1 c2 c3 c4 f0 f1 f2 f3 f4 f5 d0
 cases b2
 ·go_wp2_with fail
  go_ret
  exact ⟨rfl,(HE.out _ H2.out).1⟩
 obtain ⟨_,⟨c0,c1,c2,c3,c4⟩,⟨f0,f1,f2,f3,f4,f5⟩,d0⟩:=HE.out w2 H2.out
 by_cases p1:(10:Int)<(l.length:Int)
 ·go_wp2_with fail
  go_ret
  exact ⟨rfl,(HE.out _ H2.out).1⟩
 have p1':decide ((10:Int)<(l.length:Int))=false:=decide_eq_false p1
 clear p1
 go_wp2_with fail
 refine (HTR.out _ (HE.out _ H2.out).1).mono ?_
 rintro e w3 ⟨k0,k1,k2,ta,tn,tc,rfl,hd,hb3⟩
 have H3:=Lh (aI (DAt.mono (fun _ k=>k.2) _ _ hd:DAt w3 (fun k=>k<w3.heap.size) t.toD _) (H2.out.trans (hb3.mono H2.out.size)))
 clear hd hb3 c0 c1 c2 c3 c4 f0 f1 f2 f3 f4 f5 d0 p1'
 simp only
 go_upto_region 6 with fail
 obtain ⟨w4,hW4⟩:∃ w4,w4=w3.alloc (.cells #[.int .i64 k0,.int .i64 k1,.int .i64 k2,.slice ta tn tc] 39):=⟨_,rfl⟩
 rw [<- hW4]
 have H4:Hid (Below W0.heap.size W0 w4/\∀ W,Below w4.heap.size w4 W->W.heap[w3.heap.size]?=some (.cells #[.int .i64 k0,.int .i64 k1,.int .i64 k2,.slice ta tn tc] 39 (0,0))/\DAt W (·<W.heap.size) t.toD [.int .i64 k0,.int .i64 k1,.int .i64 k2,.slice ta tn tc]):=Lh (by
  have hba:Below w3.heap.size w3 w4:=by rw [hW4];exact (Below.refl _ _).alloc (Nat.le_refl _) _
  refine ⟨H3.out.2.trans (hba.mono H3.out.2.size),fun W hb=>?_⟩
  have h2:Below w3.heap.size w3 W:=hba.trans (hb.mono hba.size)
  refine ⟨(hb.block _ (by rw [hW4];simp)).trans (by rw [hW4,heap_get,if_pos rfl]),DAt.mono (fun k (hk:k<w3.heap.size)=>by have:=h2.size;omega) _ _ (DAt.agree (agree_of_below h2) _ _ H3.out.1)⟩)
 clear hW4
 obtain ⟨_,⟨c0,c1,c2,c3,c4⟩,_,d0⟩:=HE.out w4 H4.out.1
 go_wp2_with fail
 refine (HWT.out _ (HE.out _ H4.out.1).1).mono ?_
 rintro e w5 ⟨u,rfl,hu,hb5⟩
 have H5:=Lh (aI (hu.mono (fun _ k=>k.2):SlIn w5 (fun k=>k<w5.heap.size) (dbools a) u) (aI hb5 (H4.out.1.trans (hb5.mono H4.out.1.size))))
 clear hu hb5 c0 c1 c2 c3 c4 d0
 simp only
 obtain ⟨_,_,⟨f0,f1,f2,f3,f4,f5⟩,_⟩:=HE.out w5 H5.out.2.2
 go_wp2_with fail
 refine (HNN.out _ (HE.out _ H5.out.2.2).1).mono ?_
 rintro e w6 ⟨nu,rfl,hnu,hb6⟩
 have H6:=Lh (aI hb6 (H5.out.2.2.trans (hb6.mono H5.out.2.2.size)))
 simp only [ndV,FrmA.cells,SlA.val]
 clear f0 f1 f2 f3 f4 f5 hb6
 go_upto_region 8 with fail
 obtain ⟨w7,hW7⟩:∃ w7,w7=w6.alloc (.cells #[.int .i64 (Frm.mk qk qn qm qt qb ql).kind,.string ⟨(Frm.mk qk qn qm qt qb ql).name.toArray⟩,.int .i64 (Frm.mk qk qn qm qt qb ql).n,.slice nu.t.a (Frm.mk qk qn qm qt qb ql).terms.length nu.t.cap,.slice nu.b.a (Frm.mk qk qn qm qt qb ql).binds.length nu.b.cap,.slice nu.l.a (Frm.mk qk qn qm qt qb ql).l.length nu.l.cap] 34):=⟨_,rfl⟩
 obtain ⟨hb7,hq7,hn7⟩:=alloc_new hW7 hnu
 simp only [Frm.kind,Frm.name,Frm.n,Frm.terms,Frm.binds,Frm.l] at hW7 ⊢
 rw [<- hW7]
 have H7:=Lh (aI (H6.out.2.trans (hb7.mono H6.out.2.size)) (aI hn7 (H5.out.2.1.trans ((H6.out.1.trans (hb7.mono H6.out.1.size)).mono H5.out.2.1.size))))
 have HU7:=Lh (H5.out.1.later (H6.out.1.trans (hb7.mono H6.out.1.size)) (Nat.le_trans H6.out.1.size hb7.size))
 obtain ⟨f0,f1,f2,f3,f4,f5⟩:=hq7.cells
 simp only [Frm.kind,Frm.name,Frm.n,Frm.terms,Frm.binds,Frm.l] at f0 f1 f2 f3 f4 f5
 obtain ⟨_,⟨c0,c1,c2,c3,c4⟩,_,_⟩:=HE.out w7 H7.out.1
 clear hW7 hb7 hq7 hn7 hnu
 go_wp2_with fail
 refine (HT2.out nu w7 (HE.out _ H7.out.1).1 H7.out.2.1).mono ?_
 rintro e w8 ⟨m0,m1,m2,ma,mn,mc,rfl,hd,hb8⟩
 have H8:=Lh (aI (DAt.mono (fun _ k=>k.2) _ _ hd:DAt w8 (fun k=>k<w8.heap.size) t2.toD _) (aI (H7.out.1.trans (hb8.mono H7.out.1.size)) (aI (HU7.out.later hb8 hb8.size) (H7.out.2.2.trans (hb8.mono H7.out.2.2.size)))))
 clear hd hb8 c0 c1 c2 c3 c4 f0 f1 f2 f3 f4 f5
 simp only
 go_upto_region 9 with fail
 obtain ⟨w9,hW9⟩:∃ w9,w9=w8.alloc (.cells #[.int .i64 m0,.int .i64 m1,.int .i64 m2,.slice ma mn mc] 39):=⟨_,rfl⟩
 rw [<- hW9]
 have hb9:Below w8.heap.size w8 w9:=by rw [hW9];exact (Below.refl _ _).alloc (Nat.le_refl _) _
 have H9:=Lh (H8.out.2.1.trans (hb9.mono H8.out.2.1.size))
 have H49:=Lh (H8.out.2.2.2.trans (hb9.mono H8.out.2.2.2.size))
 have HU9:=Lh (H8.out.2.2.1.later hb9 hb9.size)
 have HD9:=Lh (DAt.mono (fun k (hk:k<w8.heap.size)=>Nat.lt_of_lt_of_le hk hb9.size) _ _ (DAt.agree (agree_of_below hb9) _ _ H8.out.1))
 have HX9:Hid (w9.heap[w8.heap.size]?=some (.cells #[.int .i64 m0,.int .i64 m1,.int .i64 m2,.slice ma mn mc] 39 (0,0))):=Lh (by rw [hW9,heap_get,if_pos rfl])
 clear hW9 hb9
 by_cases hec:ec=0
 ·subst hec
  obtain ⟨hsz,hnc,hor⟩:=HPL.out rfl
  have HSZ:=Lh hsz
  try simp only at hnc
  subst hnc
  by_cases hgc:gc=0
  ·subst hgc
   rcases hor with h2 | ⟨h2,h3,h4⟩
   ·try simp only at h2
    subst h2
    go_wp2_with fail
    go_ret
    exact ⟨rfl,(HE.out _ H9.out).1⟩
   ·try simp only at h2 h3 h4
    subst h2
    have hvv:=h4 (by first | rfl | trivial)
    obtain ⟨q1,d1⟩:=H4.out.2 w9 H49.out
    have HT1:=Lh (aI q1 d1)
    have HK:Hid (∀ W,Below w9.heap.size w9 W->(W.cell? ⟨w3.heap.size,0,none⟩=some (.int .i64 k0)/\W.cell? ⟨w3.heap.size,1,none⟩=some (.int .i64 k1)/\W.cell? ⟨w3.heap.size,2,none⟩=some (.int .i64 k2)/\W.cell? ⟨w3.heap.size,3,none⟩=some (.slice ta tn tc))/\(W.cell? ⟨w8.heap.size,0,none⟩=some (.int .i64 m0)/\W.cell? ⟨w8.heap.size,1,none⟩=some (.int .i64 m1)/\W.cell? ⟨w8.heap.size,2,none⟩=some (.int .i64 m2)/\W.cell? ⟨w8.heap.size,3,none⟩=some (.slice ma mn mc))):=Lh (fun W hW=>by
     have e1:=(hW.block _ (gS HT1.out.1).1).trans HT1.out.1
     have e2:=(hW.block _ (gS HX9.out).1).trans HX9.out
     exact ⟨⟨cH e1 rfl,cH e1 rfl,cH e1 rfl,cH e1 rfl⟩,cH e2 rfl,cH e2 rfl,cH e2 rfl,cH e2 rfl⟩)
    have HV1:=Lh (fun (W:World) (hW:Below w9.heap.size w9 W)=>gval_any a u t.size t _ W (Nat.le_refl _) (by have:=HSZ.out;omega) HTL.out (DAt.mono (fun k (hk:k<w9.heap.size)=>Nat.lt_of_lt_of_le hk hW.size) _ _ (DAt.agree (agree_of_below hW) _ _ HT1.out.2)) (HU9.out.later hW hW.size))
    have HV2:=Lh (fun (W:World) (hW:Below w9.heap.size w9 W)=>gval_any a u t2.size t2 _ W (Nat.le_refl _) (by omega) HTL.out (DAt.mono (fun k (hk:k<w9.heap.size)=>Nat.lt_of_lt_of_le hk hW.size) _ _ (DAt.agree (agree_of_below hW) _ _ HD9.out)) (HU9.out.later hW hW.size))
    rw [<- hvv] at HV2
    generalize valG t a=vv at HV1 HV2
    clear q1 d1 hvv h4 h3 hsz
    go_upto_region 11 with fail
    go_region_held3 (fun w'=>(w'.cell? ⟨w3.heap.size,0,none⟩=some (.int .i64 k0)/\w'.cell? ⟨w3.heap.size,1,none⟩=some (.int .i64 k1)/\w'.cell? ⟨w3.heap.size,2,none⟩=some (.int .i64 k2)/\w'.cell? ⟨w3.heap.size,3,none⟩=some (.slice ta tn tc))/\(w'.cell? ⟨w8.heap.size,0,none⟩=some (.int .i64 m0)/\w'.cell? ⟨w8.heap.size,1,none⟩=some (.int .i64 m1)/\w'.cell? ⟨w8.heap.size,2,none⟩=some (.int .i64 m2)/\w'.cell? ⟨w8.heap.size,3,none⟩=some (.slice ma mn mc))) ((refine HK.out _ ?_;first | exact HC2.out | exact HC1.out | exact (Below.refl _ _).drew | fail))
     (first
      | (go_at_call 21;refine (HV2.out _ HC1.out).mono ?_;rintro e w11 ⟨rfl,hbb⟩;have HC2:=Lh (HC1.out.trans (hbb.mono HC1.out.size));clear hbb)
      | (go_at_call 21;refine (HV1.out _ (Below.refl _ _).drew).mono ?_;rintro e w10 ⟨rfl,hbb⟩;have HC1:=Lh ((Below.refl _ _).drew.trans hbb:Below w9.heap.size w9 _);clear hbb))
    all_goals
     cases vv
     all_goals
      go_wp2_with fail
      go_ret
      exact ⟨rfl,(HE.out _ (H9.out.trans (HC2.out.mono H9.out.size))).1⟩
  ·have z1:(gc != 0)=true:=by simpa using hgc
   clear hgc hor
   go_wp2_with fail
   go_ret
   exact ⟨rfl,(HE.out _ H9.out).1⟩
 ·have z1:(ec != 0)=true:=by simpa using hec
  clear hec
  go_wp2_with fail
  go_ret
  exact ⟨rfl,(HE.out _ H9.out).1⟩
end Go.Proofs.YtjjkfgjnadaheaaGreatDoor
