/- Joined texts: GOneP, WGOne. -/
import Derived.Test.YtjjkfgjnadaheaaGreatDoorB45
import Derived.Test.YtjjkfgjnadaheaaGreatDoorB09
import Derived.Test.YtjjkfgjnadaheaaGreatDoorB07
import Derived.Test.YtjjkfgjnadaheaaGreatDoorB08
import Derived.Test.YtjjkfgjnadaheaaGreatDoorB48
set_option linter.unusedVariables false
set_option linter.unusedSimpArgs false
set_option maxHeartbeats 16000000
set_option maxRecDepth 100000

/- GroundOne: the plain law. -/
namespace Go.Chalk
open Go.RowKit
theorem split_formed {kind:Int} (hk:kind=14∨kind=15) {name:Bs} {n:Int} {b:Bnd} {r:List Bnd} {g:Frm} (hr:r ≠ []) (h:(nodesF (.mk kind name n [] (b :: r) [g])).all formedF=true):(nodesF (.mk kind name n [] [b] [.mk kind name n [] r [g]])).all formedF=true:=by
 obtain ⟨h1,h2⟩:=node_formed.1 h
 have hq:quantK kind=true:=by rcases hk with rfl | rfl <;> decide
 rw [formed_quant hq,partsOk_mk] at h1
 simp only [Bool.and_eq_true,List.all_cons,decide_eq_true_eq,List.length_cons] at h1
 obtain ⟨⟨⟨⟨⟨q1,q2⟩,q3⟩,q4⟩,q5⟩,⟨⟨_,q6⟩,q7,q8⟩,q9⟩:=h1
 have hl:0<r.length:=List.length_pos_iff.2 hr
 refine node_formed.2 ⟨?_,?_⟩
 ·rw [formed_quant hq,partsOk_mk]
  simp only [Bool.and_eq_true,List.all_cons,decide_eq_true_eq,List.length_cons,List.length_nil,List.all_nil]
  exact ⟨⟨⟨⟨⟨q1,q2⟩,by simp [hq]⟩,q4⟩,q5⟩,⟨⟨by omega,by omega⟩,q7,trivial⟩,q9⟩
 ·rw [nodesL,nodesL,List.append_nil]
  refine node_formed.2 ⟨?_,h2⟩
  rw [formed_quant hq,partsOk_mk]
  simp only [Bool.and_eq_true,decide_eq_true_eq]
  exact ⟨⟨⟨⟨⟨q1,q2⟩,by simp [hq]⟩,q4⟩,q5⟩,⟨⟨hl,by omega⟩,q8⟩,q9⟩
theorem split_walk {kind:Int} {name:Bs} {n:Int} {b:Bnd} {r:List Bnd} {g:Frm} {e:List Bnd} (h:walkF e (.mk kind name n [] (b :: r) [g])=0):walkF e (.mk kind name n [] [b] [.mk kind name n [] r [g]])=0:=by
 rw [walkF_nil] at h ⊢
 simp only [bindAll] at h ⊢
 by_cases h0:(findB e b.name).isSome=true
 ·rw [if_pos h0] at h;cases h
 ·rw [if_neg h0] at h ⊢
  simp only [walkL]
  rw [walkF_nil,h];simp
theorem split_val (s:Schl) (w:List Plc) (env:List Ev) {kind:Int} (hk:kind=14∨kind=15) (name:Bs) (n:Int) (b:Bnd) (r:List Bnd) (g:Frm) :
  holdsF s w env (.mk kind name n [] [b] [.mk kind name n [] r [g]])=holdsF s w env (.mk kind name n [] (b :: r) [g]):=by
 have e1:sizesF s [b]=[schCount s b.sort]:=rfl
 have e2:sizesF s (b :: r)=schCount s b.sort :: sizesF s r:=rfl
 have e3:∀ (i:Nat) (u:List Nat),withF (withF env [b] [i]) r u=withF env (b :: r) (i :: u):=fun i u=>by
  rw [with_cons env b r i u];rfl
 rcases hk with rfl | rfl
 ·have hin:∀ i:Nat,holdsAt s w (withF env [b] [i]) [.mk 14 name n [] r [g]] 0=(tuplesF (sizesF s r)).all (fun u=>holdsAt s w (withF env (b :: r) (i :: u)) [g] 0):=fun i=>by
   rw [holdsAt,holdsF_nil]
   simp only [Int.reduceEq,↓reduceIte,quant_all,e3]
  rw [holdsF_nil,holdsF_nil]
  simp only [Int.reduceEq,↓reduceIte,quant_all]
  rw [e1,tuples_one,e2,tuplesF,List.all_map,List.all_flatMap]
  simp only [Function.comp_def,hin,List.all_map]
 ·have hin:∀ i:Nat,holdsAt s w (withF env [b] [i]) [.mk 15 name n [] r [g]] 0=(tuplesF (sizesF s r)).any (fun u=>holdsAt s w (withF env (b :: r) (i :: u)) [g] 0):=fun i=>by
   rw [holdsAt,holdsF_nil]
   simp only [Int.reduceEq,↓reduceIte,quant_any,e3]
  rw [holdsF_nil,holdsF_nil]
  simp only [Int.reduceEq,↓reduceIte,quant_any]
  rw [e1,tuples_one,e2,tuplesF,List.any_map,List.any_flatMap]
  simp only [Function.comp_def,hin,List.any_map]
def splitF (f:Frm) (b:Bnd) (r:List Bnd):Frm:=.mk f.kind f.name f.n f.terms [b] [.mk f.kind f.name f.n f.terms r f.l]
theorem gTree_zero {s:Schl} {env:List Ev} {f:Frm} (h:(gTreeF s env f).2 ≠ 0):(gTreeF s env f).1=zeroTr:=by
 revert h
 unfold gTreeF
 split
 ·exact fun _=>rfl
 split
 ·exact fun h=>absurd rfl h
 ·exact fun _=>rfl
theorem gTree_good {s:Schl} {env:List Ev} {f:Frm} (h:(gTreeF s env f).2=0):HoldsOk s (firstW s) env f/\gTreeF s env f=(gtF s env f,0)/\(gtF s env f).size<=65536:=by
 revert h
 unfold gTreeF
 split
 ·rename_i h;exact fun h0=>absurd h0 h
 split
 ·rename_i h1 h2;exact fun _=>⟨evHolds_ok.1 (Decidable.byContradiction h1),rfl,h2⟩
 ·intro h;cases h
theorem wkTrue_good {s:Schl} {l:List Plc} (h:(wkTrueF s l).2=0):weekCheck s l=0/\wkTrueF s l=(trueK s l l.length,0):=by
 revert h
 unfold wkTrueF
 split
 ·rename_i h;exact fun h0=>absurd h0 h
 ·rename_i h;exact fun _=>⟨Decidable.byContradiction h,rfl⟩
theorem quant_parts {s:Schl} {w:List Plc} {env:List Ev} {f:Frm} (hk:f.kind=14∨f.kind=15) (h:HoldsOk s w env f):∃ g,f=.mk f.kind f.name f.n [] f.binds [g]:=by
 obtain ⟨kind,name,n,terms,binds,l⟩:=f
 simp only [Frm.kind,Frm.name,Frm.n,Frm.binds] at hk ⊢
 obtain ⟨p1,p2,p3,p4,p5⟩:=parts_of (node_formed.1 h.formed).1
 have ht:terms=[]:=by
  rcases p2 with h | h
  ·exact h
  ·unfold atomK at h;simp at h;omega
 have hl:l.length=1:=by rcases arity_cases p1 with ⟨h1,h2⟩ | ⟨h1,h2⟩ | ⟨h1,h2⟩ | ⟨h1,h2⟩ <;> omega
 obtain ⟨g,rfl⟩:=List.length_eq_one_iff.1 hl
 exact ⟨g,by rw [ht]⟩
theorem gone_plain (s:Schl) (l:List Plc) (env:List Ev) (f:Frm) (b:Bnd) (r:List Bnd) (hk:f.kind=14∨f.kind=15) (hb:f.binds=b :: r) (hr:r ≠ []) :
  ((gTreeF s env f).2 ≠ 0->(gTreeF s env f).1=zeroTr)/\((gTreeF s env f).2=0->(gTreeF s env f).1.size<=65536/\(gTreeF s env f).1.kind ≠ 0/\((wkTrueF s l).2=0->(gTreeF s env (splitF f b r)).2=2∨((gTreeF s env (splitF f b r)).2=0/\(gTreeF s env (splitF f b r)).1.size<=65536/\valG (gTreeF s env f).1 (wkTrueF s l).1=valG (gTreeF s env (splitF f b r)).1 (wkTrueF s l).1))):=by
 refine ⟨gTree_zero,fun h=>?_⟩
 obtain ⟨ho,e1,e2⟩:=gTree_good h
 obtain ⟨g,hf⟩:=quant_parts hk ho
 rw [hb] at hf
 have hsp:splitF f b r=.mk f.kind f.name f.n [] [b] [.mk f.kind f.name f.n [] r [g]]:=by
  have h1:f.terms=[]:=by rw [hf];rfl
  have h2:f.l=[g]:=by rw [hf];rfl
  unfold splitF;rw [h1,h2]
 have hfo:=ho.formed
 have hwa:=ho.walk
 rw [hf] at hfo hwa
 have k1:=split_formed hk hr hfo
 have k2:=split_walk hwa
 rw [e1]
 refine ⟨e2,?_,fun hw=>?_⟩
 ·rw [hf]
  rcases hk with hk | hk <;> rw [hk,gtF] <;> simp [Tr.kind]
 ·obtain ⟨hw1,hw2⟩:=wkTrue_good hw
  rw [hw2]
  have hor:=evHolds_or ho.week ho.may k1 k2
  rw [<- hsp] at hor
  by_cases h0:(gTreeF s env (splitF f b r)).2=0
  ·obtain ⟨go,g1,g2⟩:=gTree_good h0
   right
   rw [g1]
   refine ⟨rfl,g2,?_⟩
   have ta:=trueW_true hw1
   rw [gt_val s l _ ta ho.week f.size f env (Nat.le_refl _) (ho.week_swap hw1),gt_val s l _ ta ho.week _ (splitF f b r) env (Nat.le_refl _) (go.week_swap hw1),hsp,split_val s l env hk,<- hf]
  ·left
   unfold gTreeF at h0 ⊢
   rcases hor with ⟨_,_,_,e⟩ | ⟨_,e⟩
   ·rw [e] at h0 ⊢
    simp only [ne_eq,not_true_eq_false,if_false] at h0 ⊢
    split
    ·rename_i h3;rw [if_pos h3] at h0;exact absurd rfl h0
    ·rfl
   ·rw [e];rfl
end Go.Chalk
/- GroundOne: where the listed variables hold what their text lays, the law returns true. -/
namespace Go.Chalk
open Go.RowKit
theorem SlIn.take1 {w:World} {F:Nat->Prop} {x:D} {r:List D} {u:SlA} (h:SlIn w F (x :: r) u):SlIn w F [x] u :=
 ⟨fun _=>h.at_ (by simp),by have:=h.le;simp at this ⊢;omega,h.max,by have:=h.row;rw [RowAt] at this ⊢;exact ⟨this.1,by rw [RowAt];trivial⟩⟩
theorem SlIn.drop1 {w:World} {F:Nat->Prop} {x:D} {r:List D} {b o cap:Nat} (h:SlIn w F (x :: r) ⟨some ⟨b,o,none⟩,b,o,cap⟩):SlIn w F r ⟨some ⟨b,o+x.width,none⟩,b,o+x.width,cap - 1⟩ :=
 ⟨fun _=>⟨rfl,(h.at_ (by simp)).2⟩,by have:=h.le;simp at this ⊢;omega,by have:=h.max;simp at this ⊢;omega,by have:=h.row;rw [RowAt] at this;exact this.2⟩
end Go.Chalk
namespace Go.Proofs.YtjjkfgjnadaheaaGreatDoor
open Go.RowKit Go.Chalk
theorem tree_kind {W:World} {F:Nat->Prop} {t:Tr} {k0 k1 k2:Int} {a:Option Addr} {n cap:Nat} (h:DAt W F t.toD [.int .i64 k0,.int .i64 k1,.int .i64 k2,.slice a n cap]):k0=t.kind:=by
 obtain ⟨kind,v,k,l⟩:=t
 rw [Tr.toD,DAt,DsAt] at h
 obtain ⟨c1,c2,e,h1,_⟩:=h
 rw [DAt] at h1
 obtain ⟨rfl,_⟩:=h1
 simp only [List.singleton_append,List.cons.injEq,Value.int.injEq] at e
 exact e.1.2
theorem split_in {W:World} {f:Frm} {fa:FrmA} {b:Bnd} {r:List Bnd} {nb:Nat} (hX:FrmIn W (·<W.heap.size) f fa) (hbr:f.binds=b :: r)
  (q:W.heap[nb]?=some (.cells #[.int .i64 f.kind,.string ⟨f.name.toArray⟩,.int .i64 f.n,.slice fa.t.a f.terms.length fa.t.cap,.slice (some ⟨fa.b.b,fa.b.o+2,none⟩) (f.binds.length - 1) (fa.b.cap - 1),.slice fa.l.a f.l.length fa.l.cap] 34 (0,0))) :
  FrmIn W (·<W.heap.size) (splitF f b r) ⟨fa.t,⟨some ⟨fa.b.b,fa.b.o,none⟩,fa.b.b,fa.b.o,fa.b.cap⟩,⟨some ⟨nb,0,none⟩,nb,0,1⟩⟩:=by
 obtain ⟨ft,⟨ba,bb,bo,bc⟩,fl⟩:=fa
 have hB:=hX.binds
 rw [hbr,List.map_cons] at hB
 obtain ⟨hba,hFb⟩:=hB.at_ (by simp)
 simp only at hba
 subst hba
 have hin:FrmIn W (·<W.heap.size) (.mk f.kind f.name f.n f.terms r f.l) ⟨ft,⟨some ⟨bb,bo+2,none⟩,bb,bo+2,bc - 1⟩,fl⟩:=⟨hX.kind,hX.name,hX.n,hX.terms,hB.drop1,hX.l⟩
 rw [hbr,List.length_cons,Nat.add_sub_cancel] at q
 exact ⟨hX.kind,hX.name,hX.n,hX.terms,hB.take1,SlIn.lit (cs:=FrmA.cells ⟨ft,⟨some ⟨bb,bo+2,none⟩,bb,bo+2,bc - 1⟩,fl⟩ (.mk f.kind f.name f.n f.terms r f.l)) q (DsAt.one_of' (FrmIn.cells_at hin)) (gS q).1 (by simp [splitF,Frm.l]) (by unfold maxLen;decide)⟩
theorem FrmFit.split {f:Frm} {b:Bnd} {r:List Bnd} (h:FrmFit f) (hs:f.size<=1800000) (hb:f.binds=b :: r):FrmFit (splitF f b r):=by
 obtain ⟨kind,name,n,terms,binds,l⟩:=f
 simp only [Frm.binds] at hb
 subst hb
 obtain ⟨s1,s2,s3,s4,s5,s6⟩:=h.nodes (.mk kind name n terms (b :: r) l) (by rw [nodesF];simp)
 simp only [Frm.terms,Frm.binds,Frm.l,Frm.name,List.length_cons] at s1 s2 s3 s4 s5 s6
 rw [Frm.size] at hs
 refine ⟨by simp only [splitF,Frm.kind,Frm.name,Frm.n,Frm.terms,Frm.l,Frm.size,fsizes];omega,fun g hg=>?_⟩
 simp only [splitF,Frm.kind,Frm.name,Frm.n,Frm.terms,Frm.l,nodesF,nodesL,List.append_nil,List.mem_cons] at hg
 rcases hg with rfl | rfl | hg
 ·exact ⟨s1,by simp [Frm.binds],by simp [Frm.l],s4,s5,fun c hc=>s6 c (by simp only [Frm.binds,List.mem_singleton] at hc;simp [hc])⟩
 ·exact ⟨s1,by simp only [Frm.binds];omega,s3,s4,s5,fun c hc=>s6 c (List.mem_cons_of_mem _ hc)⟩
 ·exact h.nodes g (by rw [nodesF];exact List.mem_cons_of_mem _ hg)

theorem gone_walk (s:Schl) (x:SchA) (l:List Plc) (y:SlA) (env:List Ev) (z:SlA) (f:Frm) (fa:FrmA) (w:World) (hI:ItoaAt) (hf:SchFit s) (hff:FrmFit f) (hfs:f.size<=1800000) (hg:GG w) (hs:SchIn w (·<w.heap.size) s x) (hy:SlIn w (·<w.heap.size) (l.map Plc.toD) y) (hl:l.length<=2000000)
  (hz:SlIn w (·<w.heap.size) (env.map Ev.toD) z) (hel:env.length<=1200000) (hmax:∀ e∈env,e.name.length<=4000000) (hx:FrmIn w (·<w.heap.size) f fa) :
  Calls Tryz.prog 6 #[.agg (x.cells s).toArray,.slice z.a env.length z.cap,ndV (f,fa),.agg #[.slice y.a l.length y.cap]] w fun e w'=>e=.returned (.bool true)/\Below w.heap.size w w':=by
 have HLV:=Lh (fun (W:World) (hW:Below w.heap.size w W)=>live10_any W hI (hg.below hW))
 have HFW:=Lh (fun (W:World) (hW:Below w.heap.size w W)=>few10_any s x env z f fa W (hs.later hW hW.size) hf.toSchSmall.lessons hff.size (hx.later hW hW.size))
 have HTR:=Lh (fun (W:World) (hW:Below w.heap.size w W)=>gTree_any s x f fa env z W hI hf (hs.later hW hW.size) (hg.below hW) hff hel hmax (hx.later hW hW.size) (hz.later hW hW.size))
 have HWT:=Lh (fun (W:World) (hW:Below w.heap.size w W)=>wtrue_any s x l y W hI hf (hg.below hW) (hs.later hW hW.size) (hy.later hW hW.size) hl)
 have HT2:=Lh (fun (q:Frm) (qa:FrmA) (hqf:FrmFit q) (W:World) (hW:Below w.heap.size w W) (hq:FrmIn W (·<W.heap.size) q qa)=>gTree_any s x q qa env z W hI hf (hs.later hW hW.size) (hg.below hW) hqf hel hmax hq (hz.later hW hW.size))
 have HPL:=Lh (gone_plain s l env f)
 have HX:=Lh (aI hx (aI hff hfs))
 have HTL:=Lh (wkTrueF_len s l)
 obtain ⟨W0,hW0⟩:∃ W0,W0=((w.alloc (.cells (x.cells s).toArray 28)).alloc (.cells (fa.cells f).toArray 34)).alloc (.cells #[.slice y.a l.length y.cap] 50):=⟨_,rfl⟩
 have hb0:Below w.heap.size w W0:=by rw [hW0];exact (((Below.refl _ _).alloc (Nat.le_refl _) _).alloc (by simp) _).alloc (by simp;omega) _
 have hs0:SchBox W0 w.heap.size s x:=by rw [hW0];unfold SchBox;rw [heap_get,if_neg (by first | (simp;done) | (simp;omega)),heap_get,if_neg (by first | (simp;done) | (simp;omega)),heap_get,if_pos rfl]
 have hf0:FrmBox W0 (w.heap.size+1) f fa:=by rw [hW0];unfold FrmBox;rw [heap_get,if_neg (by first | (simp;done) | (simp;omega)),heap_get,if_pos (by simp)]
 have hk0:W0.heap[w.heap.size+1+1]?=some (.cells #[.slice y.a l.length y.cap] 50 (0,0)):=by rw [hW0,heap_get,if_pos (by simp)]
 have HE:Hid (∀ W,Below W0.heap.size W0 W->Below w.heap.size w W/\(W.cell? ⟨w.heap.size,0,none⟩=some (.slice x.slots.a s.slots.length x.slots.cap)/\W.cell? ⟨w.heap.size,1,none⟩=some (.slice x.rooms.a s.rooms.length x.rooms.cap)/\W.cell? ⟨w.heap.size,2,none⟩=some (.slice x.people.a s.people.length x.people.cap)/\W.cell? ⟨w.heap.size,3,none⟩=some (.slice x.groups.a s.groups.length x.groups.cap)/\W.cell? ⟨w.heap.size,4,none⟩=some (.slice x.lessons.a s.lessons.length x.lessons.cap)) /\
   (W.cell? ⟨w.heap.size+1,0,none⟩=some (.int .i64 f.kind)/\W.cell? ⟨w.heap.size+1,1,none⟩=some (.string ⟨f.name.toArray⟩)/\W.cell? ⟨w.heap.size+1,2,none⟩=some (.int .i64 f.n)/\W.cell? ⟨w.heap.size+1,3,none⟩=some (.slice fa.t.a f.terms.length fa.t.cap)/\W.cell? ⟨w.heap.size+1,4,none⟩=some (.slice fa.b.a f.binds.length fa.b.cap)/\W.cell? ⟨w.heap.size+1,5,none⟩=some (.slice fa.l.a f.l.length fa.l.cap)) /\
   W.cell? ⟨w.heap.size+1+1,0,none⟩=some (.slice y.a l.length y.cap)):=Lh (fun W hW =>
  ⟨hb0.trans (hW.mono hb0.size),(hs0.below hW).cells,(hf0.below hW).cells,cH ((hW.block _ (gS hk0).1).trans hk0) rfl⟩)
 have HB0:=Lh hb0
 have HZ0:Hid (W0.heap.size=w.heap.size+3):=Lh (by rw [hW0];simp)
 have HW0:=Lh hW0
 clear hb0 hs0 hf0 hk0 hW0 hI hf hff hg hs hy hl hz hel hmax hx hfs
 generalize gTreeF s env f=T at HTR HPL
 generalize wkTrueF s l=A at HWT HPL HTL
 obtain ⟨t,ec⟩:=T
 obtain ⟨a,gc⟩:=A
 simp only at HPL HTL
 simp only [ndV,SchA.cells,FrmA.cells,SlA.val] at HFW HTR HWT HW0 HE ⊢
 go_enter Tryz.func6,Tryz.ntmps6
 go_wp2_with fail
 rw [<- HW0.out]
 refine (HLV.out _ HB0.out).mono ?_
 rintro e w1 ⟨rfl,hb1⟩
 have H1:=Lh hb1
 clear hb1
 obtain ⟨_,⟨c0,c1,c2,c3,c4⟩,⟨f0,f1,f2,f3,f4,f5⟩,d0⟩:=HE.out w1 H1.out
 go_wp2_with fail
 refine (HFW.out _ (HE.out _ H1.out).1).mono ?_
 rintro e w2 ⟨⟨b2,rfl⟩,hb2⟩
 have H2:=Lh (H1.out.trans (hb2.mono H1.out.size))
 clear hb2 c0 c1 c2 c3 c4 f0 f1 f2 f3 f4 f5 d0
 cases b2
 ·go_wp2_with fail
  go_ret
  exact ⟨rfl,(HE.out _ H2.out).1⟩
 obtain ⟨_,⟨c0,c1,c2,c3,c4⟩,⟨f0,f1,f2,f3,f4,f5⟩,d0⟩:=HE.out w2 H2.out
 by_cases p1:(10:Int)<(l.length:Int)
 ·go_wp2_with fail
  go_ret
  exact ⟨rfl,(HE.out _ H2.out).1⟩
 have p1':decide ((10:Int)<(l.length:Int))=false:=decide_eq_false p1
 clear p1
 by_cases q1:f.kind=14∨f.kind=15
 case neg =>
  have z1:(f.kind != 14)=true:=by simp;omega
  have z2:(f.kind != 15)=true:=by simp;omega
  clear q1
  go_wp2_with fail
  go_ret
  exact ⟨rfl,(HE.out _ H2.out).1⟩
 have HQ:=Lh q1
 by_cases q2:f.binds.length<2
 case pos =>
  have z3:decide ((f.binds.length:Int)<2)=true:=by simp;omega
  clear q2
  by_cases q3:f.kind=14
  ·have z1:(f.kind != 14)=false:=by simp [q3]
   clear q1 q3
   go_wp2_with fail
   go_ret
   exact ⟨rfl,(HE.out _ H2.out).1⟩
  ·have z1:(f.kind != 14)=true:=by simp [q3]
   have z2:(f.kind != 15)=false:=by simp;omega
   clear q1 q3
   go_wp2_with fail
   go_ret
   exact ⟨rfl,(HE.out _ H2.out).1⟩
 obtain ⟨b,r,hbr,hrn⟩:∃ b r,f.binds=b :: r/\r ≠ []:=by
  cases hb:f.binds with
  | nil=>rw [hb] at q2;simp at q2
  | cons b r =>
   refine ⟨b,r,rfl,fun h=>?_⟩
   rw [hb,h] at q2;simp at q2
 have HBR:=Lh hbr
 have HPB:=Lh (HPL.out b r HQ.out hbr hrn)
 have z3:decide ((f.binds.length:Int)<2)=false:=by simp;omega
 have HLB:=Lh q2
 clear HPL hbr hrn q2
 have HCT:Hid (((f.kind != 14)=false)∨((f.kind != 14)=true/\(f.kind != 15)=false)):=Lh (by
  by_cases q3:f.kind=14
  ·left;simp [q3]
  ·right;refine ⟨by simp [q3],by simp;omega⟩)
 clear q1
 rcases HCT.out with z1 | ⟨z1,z2⟩
 all_goals
  go_wp2_with fail
  refine (HTR.out _ (HE.out _ H2.out).1).mono ?_
  rintro e w3 ⟨k0,k1,k2,ta,tn,tc,rfl,hd,hb3⟩
  have HKD:=Lh (tree_kind hd)
  have H3:=Lh (aI (DAt.mono (fun _ k=>k.2) _ _ hd:DAt w3 (fun k=>k<w3.heap.size) t.toD _) (H2.out.trans (hb3.mono H2.out.size)))
  clear hd hb3 c0 c1 c2 c3 c4 f0 f1 f2 f3 f4 f5 d0 p1' z1 z3
  try clear z2
  simp only
  go_upto_region 6 with fail
  obtain ⟨w4,hW4⟩:∃ w4,w4=w3.alloc (.cells #[.int .i64 k0,.int .i64 k1,.int .i64 k2,.slice ta tn tc] 39):=⟨_,rfl⟩
  rw [<- hW4]
  have H4:Hid (Below W0.heap.size W0 w4/\∀ W,Below w4.heap.size w4 W->W.heap[w3.heap.size]?=some (.cells #[.int .i64 k0,.int .i64 k1,.int .i64 k2,.slice ta tn tc] 39 (0,0))/\DAt W (·<W.heap.size) t.toD [.int .i64 k0,.int .i64 k1,.int .i64 k2,.slice ta tn tc]):=Lh (by
   have hba:Below w3.heap.size w3 w4:=by rw [hW4];exact (Below.refl _ _).alloc (Nat.le_refl _) _
   refine ⟨H3.out.2.trans (hba.mono H3.out.2.size),fun W hb=>?_⟩
   have h2:Below w3.heap.size w3 W:=hba.trans (hb.mono hba.size)
   refine ⟨(hb.block _ (by rw [hW4];simp)).trans (by rw [hW4,heap_get,if_pos rfl]),DAt.mono (fun k (hk:k<w3.heap.size)=>by have:=h2.size;omega) _ _ (DAt.agree (agree_of_below h2) _ _ H3.out.1)⟩)
  have HS4:Hid (w3.heap.size<w4.heap.size):=Lh (by rw [hW4];simp)
  clear hW4
  obtain ⟨_,⟨c0,c1,c2,c3,c4⟩,_,d0⟩:=HE.out w4 H4.out.1
  go_wp2_with fail
  refine (HWT.out _ (HE.out _ H4.out.1).1).mono ?_
  rintro e w5 ⟨u,rfl,hu,hb5⟩
  have H5:=Lh (aI (hu.mono (fun _ k=>k.2):SlIn w5 (fun k=>k<w5.heap.size) (dbools a) u) (aI hb5 (H4.out.1.trans (hb5.mono H4.out.1.size))))
  clear hu hb5 c0 c1 c2 c3 c4 d0
  simp only
  by_cases hec:ec=0
  ·subst hec
   by_cases hgc:gc=0
   ·subst hgc
    have hpg:=HPB.out.2 rfl
    have HSZ:=Lh hpg.1
    have HVV:=Lh (hpg.2.2 rfl)
    clear hpg
    have HEB:Hid (∀ W,Below W0.heap.size W0 W->W.cell? ⟨w.heap.size+1,0,none⟩=some (.int .i64 f.kind)/\W.cell? ⟨w.heap.size+1,1,none⟩=some (.string ⟨f.name.toArray⟩)/\W.cell? ⟨w.heap.size+1,2,none⟩=some (.int .i64 f.n)/\W.cell? ⟨w.heap.size+1,3,none⟩=some (.slice fa.t.a f.terms.length fa.t.cap)/\W.cell? ⟨w.heap.size+1,4,none⟩=some (.slice (some ⟨fa.b.b,fa.b.o,none⟩) f.binds.length fa.b.cap)/\W.cell? ⟨w.heap.size+1,5,none⟩=some (.slice fa.l.a f.l.length fa.l.cap)):=Lh (fun W hW=>by
     obtain ⟨_,_,⟨f0,f1,f2,f3,f4,f5⟩,_⟩:=HE.out W hW
     obtain ⟨hba,_⟩:=HX.out.1.binds.at_ (by rw [List.length_map];have:=HLB.out;omega)
     rw [hba] at f4
     exact ⟨f0,f1,f2,f3,f4,f5⟩)
    obtain ⟨f0,f1,f2,f3,f4,f5⟩:=HEB.out w5 H5.out.2.2
    have g1:f.binds.length<=fa.b.cap:=by have:=HX.out.1.binds.le;rwa [List.length_map] at this
    have g2:¬ fa.b.cap=1:=by have:=HLB.out;omega
    have g3:1<=f.binds.length:=by have:=HLB.out;omega
    have hlf:w.heap.size+1<w5.heap.size:=by have:=HZ0.out;have:=H5.out.2.2.size;omega
    go_upto_region 10 with fail
    obtain ⟨w6,hW6⟩:∃ w6,w6=w5.alloc (.cells #[.int .i64 f.kind,.string ⟨f.name.toArray⟩,.int .i64 f.n,.slice fa.t.a f.terms.length fa.t.cap,.slice (some ⟨fa.b.b,fa.b.o,none⟩) f.binds.length fa.b.cap,.slice fa.l.a f.l.length fa.l.cap] 34):=⟨_,rfl⟩
    rw [<- hW6]
    have hb6:Below w5.heap.size w5 w6:=by rw [hW6];exact (Below.refl _ _).alloc (Nat.le_refl _) _
    have hz6:w6.heap.size=w5.heap.size+1:=by rw [hW6];simp
    have q6:w6.heap[w5.heap.size]?=some (.cells #[.int .i64 f.kind,.string ⟨f.name.toArray⟩,.int .i64 f.n,.slice fa.t.a f.terms.length fa.t.cap,.slice (some ⟨fa.b.b,fa.b.o,none⟩) f.binds.length fa.b.cap,.slice fa.l.a f.l.length fa.l.cap] 34 (0,0)):=by rw [hW6,heap_get,if_pos rfl]
    have H6:=Lh (aI hb6 (aI hz6 (aI q6 (H5.out.2.2.trans (hb6.mono H5.out.2.2.size)))))
    clear f0 f1 f2 f3 f4 f5 hW6 hb6
    obtain ⟨_,_,_,_,f4,_⟩:=HEB.out w6 H6.out.2.2.2
    have x4:w6.cell? ⟨w5.heap.size,4,none⟩=some (.slice (some ⟨fa.b.b,fa.b.o,none⟩) f.binds.length fa.b.cap):=cH q6 rfl
    have z4:w6.frozen? ⟨w5.heap.size,4,none⟩=false:=fH q6
    have hlf6:w5.heap.size<w6.heap.size:=by omega
    clear q6 hz6
    go_upto_region 11 with fail
    clear f4 x4 z4 hlf6
    obtain ⟨w7,hW7⟩:∃ w7,w7=w6.setCell ⟨w5.heap.size,4,none⟩ (.slice (some ⟨fa.b.b,fa.b.o+2,none⟩) (f.binds.length - 1) (fa.b.cap - 1)):=⟨_,rfl⟩
    rw [<- hW7]
    have q7:w7.heap[w5.heap.size]?=some (.cells #[.int .i64 f.kind,.string ⟨f.name.toArray⟩,.int .i64 f.n,.slice fa.t.a f.terms.length fa.t.cap,.slice (some ⟨fa.b.b,fa.b.o+2,none⟩) (f.binds.length - 1) (fa.b.cap - 1),.slice fa.l.a f.l.length fa.l.cap] 34 (0,0)):=by rw [hW7];exact box_store (i:=4) _ H6.out.2.2.1
    have hm7:Chalk.Mod (fun k=>k=w5.heap.size) w5 w7:=by rw [hW7];exact Chalk.Mod.setCell (S:=fun k=>k=w5.heap.size) (Chalk.Mod.of_below H6.out.1) (fun _=>rfl) _
    have hz7:w7.heap.size=w5.heap.size+1:=by rw [hW7];simpa using H6.out.2.1
    have hb7:Below W0.heap.size W0 w7:=H5.out.2.2.trans (hm7.below H5.out.2.2.size (fun k hk=>by have:=H5.out.2.2.size;omega))
    have H7:=Lh (aI hm7 (aI hz7 (aI q7 hb7)))
    clear hW7 q7 hm7 hz7 hb7
    obtain ⟨f0,f1,f2,f3,f4,f5⟩:=HEB.out w7 H7.out.2.2.2
    go_upto_region 12 with fail
    clear f0 f1 f2 f3 f4 f5
    obtain ⟨w8,hW8⟩:∃ w8,w8=w7.alloc (.cells #[.int .i64 f.kind,.string ⟨f.name.toArray⟩,.int .i64 f.n,.slice fa.t.a f.terms.length fa.t.cap,.slice (some ⟨fa.b.b,fa.b.o,none⟩) f.binds.length fa.b.cap,.slice fa.l.a f.l.length fa.l.cap] 34):=⟨_,rfl⟩
    rw [<- hW8]
    have hb8:Below w7.heap.size w7 w8:=by rw [hW8];exact (Below.refl _ _).alloc (Nat.le_refl _) _
    have hz8:w8.heap.size=w5.heap.size+2:=by rw [hW8];simp;have:=H7.out.2.1;omega
    have q8:w8.heap[w7.heap.size]?=some (.cells #[.int .i64 f.kind,.string ⟨f.name.toArray⟩,.int .i64 f.n,.slice fa.t.a f.terms.length fa.t.cap,.slice (some ⟨fa.b.b,fa.b.o,none⟩) f.binds.length fa.b.cap,.slice fa.l.a f.l.length fa.l.cap] 34 (0,0)):=by rw [hW8,heap_get,if_pos rfl]
    have H8:=Lh (aI (H7.out.1.trans (Chalk.Mod.of_below (S:=fun k=>k=w5.heap.size) hb8) (fun _ _ h=>h)) (aI hz8 (aI q8 (aI ((hb8.block _ (gS H7.out.2.2.1).1).trans H7.out.2.2.1) (H7.out.2.2.2.trans (hb8.mono H7.out.2.2.2.size))))))
    clear hW8 hb8 hz8 q8
    obtain ⟨_,_,_,_,f4,_⟩:=HEB.out w8 H8.out.2.2.2.2
    have x4:w8.cell? ⟨w7.heap.size,4,none⟩=some (.slice (some ⟨fa.b.b,fa.b.o,none⟩) f.binds.length fa.b.cap):=cH H8.out.2.2.1 rfl
    have z4:w8.frozen? ⟨w7.heap.size,4,none⟩=false:=fH H8.out.2.2.1
    have hlf8:w7.heap.size<w8.heap.size:=by have:=H8.out.2.1;have:=H7.out.2.1;omega
    go_upto_region 13 with fail
    clear f4 x4 z4 hlf8
    obtain ⟨w9,hW9⟩:∃ w9,w9=w8.setCell ⟨w7.heap.size,4,none⟩ (.slice (some ⟨fa.b.b,fa.b.o,none⟩) 1 fa.b.cap):=⟨_,rfl⟩
    rw [<- hW9]
    have q9:w9.heap[w7.heap.size]?=some (.cells #[.int .i64 f.kind,.string ⟨f.name.toArray⟩,.int .i64 f.n,.slice fa.t.a f.terms.length fa.t.cap,.slice (some ⟨fa.b.b,fa.b.o,none⟩) 1 fa.b.cap,.slice fa.l.a f.l.length fa.l.cap] 34 (0,0)):=by rw [hW9];exact box_store (i:=4) _ H8.out.2.2.1
    have hm9:Chalk.Mod (fun k=>w5.heap.size<=k) w5 w9:=by rw [hW9];exact Chalk.Mod.setCell (S:=fun k=>w5.heap.size<=k) (H8.out.1.mono (fun k hk=>by omega)) (fun h=>by have:=H7.out.2.1;simp;omega) _
    have hz9:w9.heap.size=w5.heap.size+2:=by rw [hW9];simpa using H8.out.2.1
    have r9:w9.heap[w5.heap.size]?=some (.cells #[.int .i64 f.kind,.string ⟨f.name.toArray⟩,.int .i64 f.n,.slice fa.t.a f.terms.length fa.t.cap,.slice (some ⟨fa.b.b,fa.b.o+2,none⟩) (f.binds.length - 1) (fa.b.cap - 1),.slice fa.l.a f.l.length fa.l.cap] 34 (0,0)):=by
     rw [hW9]
     exact heap_kept H8.out.2.2.2.1 (Chalk.Mod.setCell (S:=fun k=>k=w7.heap.size) (Chalk.Mod.refl _ _) (fun _=>rfl) _) (by have:=H7.out.2.1;omega)
    have H9:=Lh (aI hm9 (aI hz9 (aI q9 r9)))
    have x0:w9.cell? ⟨w5.heap.size,0,none⟩=some (.int .i64 f.kind):=cH r9 rfl
    have x1:w9.cell? ⟨w5.heap.size,1,none⟩=some (.string ⟨f.name.toArray⟩):=cH r9 rfl
    have x2:w9.cell? ⟨w5.heap.size,2,none⟩=some (.int .i64 f.n):=cH r9 rfl
    have x3:w9.cell? ⟨w5.heap.size,3,none⟩=some (.slice fa.t.a f.terms.length fa.t.cap):=cH r9 rfl
    have x4:w9.cell? ⟨w5.heap.size,4,none⟩=some (.slice (some ⟨fa.b.b,fa.b.o+2,none⟩) (f.binds.length - 1) (fa.b.cap - 1)):=cH r9 rfl
    have x5:w9.cell? ⟨w5.heap.size,5,none⟩=some (.slice fa.l.a f.l.length fa.l.cap):=cH r9 rfl
    have y5:w9.cell? ⟨w7.heap.size,5,none⟩=some (.slice fa.l.a f.l.length fa.l.cap):=cH q9 rfl
    have z5:w9.frozen? ⟨w7.heap.size,5,none⟩=false:=fH q9
    have hl9:w7.heap.size<w9.heap.size:=by have:=H7.out.2.1;omega
    clear hW9 q9 hm9 hz9 r9
    go_upto_region 14 with fail
    clear x0 x1 x2 x3 x4 x5 y5 z5 hl9
    obtain ⟨w10,hW10⟩:∃ w10,w10=(w9.setCell ⟨w7.heap.size,5,none⟩ (.slice (some ⟨w9.heap.size,0,none⟩) 1 1)).alloc (.cells #[.int .i64 f.kind,.string ⟨f.name.toArray⟩,.int .i64 f.n,.slice fa.t.a f.terms.length fa.t.cap,.slice (some ⟨fa.b.b,fa.b.o+2,none⟩) (f.binds.length - 1) (fa.b.cap - 1),.slice fa.l.a f.l.length fa.l.cap] 34):=⟨_,rfl⟩
    rw [<- hW10]
    have hS9:(w9.setCell ⟨w7.heap.size,5,none⟩ (.slice (some ⟨w9.heap.size,0,none⟩) 1 1)).heap.size=w9.heap.size:=by simp
    have hm10:Chalk.Mod (fun k=>w5.heap.size<=k) w5 w10:=by
     rw [hW10]
     exact (Chalk.Mod.setCell (S:=fun k=>w5.heap.size<=k) H9.out.1 (fun h=>by have:=H7.out.2.1;simp;omega) _).alloc _
    have q10:w10.heap[w7.heap.size]?=some (.cells #[.int .i64 f.kind,.string ⟨f.name.toArray⟩,.int .i64 f.n,.slice fa.t.a f.terms.length fa.t.cap,.slice (some ⟨fa.b.b,fa.b.o,none⟩) 1 fa.b.cap,.slice (some ⟨w9.heap.size,0,none⟩) 1 1] 34 (0,0)):=by
     rw [hW10,heap_get,if_neg (by rw [hS9];have:=H9.out.2.1;have:=H7.out.2.1;omega)]
     exact box_store (i:=5) _ H9.out.2.2.1
    have r10:w10.heap[w9.heap.size]?=some (.cells #[.int .i64 f.kind,.string ⟨f.name.toArray⟩,.int .i64 f.n,.slice fa.t.a f.terms.length fa.t.cap,.slice (some ⟨fa.b.b,fa.b.o+2,none⟩) (f.binds.length - 1) (fa.b.cap - 1),.slice fa.l.a f.l.length fa.l.cap] 34 (0,0)):=by rw [hW10,heap_get,if_pos hS9.symm]
    have hz10:w10.heap.size=w5.heap.size+3:=by rw [hW10];simp;have:=H9.out.2.1;omega
    have hb10:Below w5.heap.size w5 w10:=hm10.below (Nat.le_refl _) (fun k hk=>hk)
    have hbw0:Below W0.heap.size W0 w10:=H5.out.2.2.trans (hb10.mono H5.out.2.2.size)
    have hbw:=(HE.out _ hbw0).1
    have HFI:=Lh (split_in (HX.out.1.later hbw hbw.size) HBR.out r10)
    have HFF:=Lh (FrmFit.split HX.out.2.1 HX.out.2.2 HBR.out)
    have H10:=Lh (aI hbw0 (aI hb10 (H5.out.1.later hb10 hb10.size)))
    obtain ⟨_,⟨c0,c1,c2,c3,c4⟩,_,_⟩:=HE.out w10 hbw0
    have x0:w10.cell? ⟨w7.heap.size,0,none⟩=some (.int .i64 f.kind):=cH q10 rfl
    have x1:w10.cell? ⟨w7.heap.size,1,none⟩=some (.string ⟨f.name.toArray⟩):=cH q10 rfl
    have x2:w10.cell? ⟨w7.heap.size,2,none⟩=some (.int .i64 f.n):=cH q10 rfl
    have x3:w10.cell? ⟨w7.heap.size,3,none⟩=some (.slice fa.t.a f.terms.length fa.t.cap):=cH q10 rfl
    have x4:w10.cell? ⟨w7.heap.size,4,none⟩=some (.slice (some ⟨fa.b.b,fa.b.o,none⟩) 1 fa.b.cap):=cH q10 rfl
    have x5:w10.cell? ⟨w7.heap.size,5,none⟩=some (.slice (some ⟨w9.heap.size,0,none⟩) 1 1):=cH q10 rfl
    have HTS:=Lh (HT2.out (splitF f b r) _ HFF.out w10 hbw HFI.out)
    generalize gTreeF s env (splitF f b r)=X at HTS HVV
    obtain ⟨t2,ic⟩:=X
    simp only [splitF,Frm.kind,Frm.name,Frm.n,Frm.terms,Frm.binds,Frm.l,List.length_cons,List.length_nil,Nat.zero_add] at HTS HVV
    clear hW10 hS9 hm10 q10 r10 hz10 hb10 hbw0 hbw
    go_wp2_with fail
    refine HTS.out.mono ?_
    rintro e w11 ⟨m0,m1,m2,ma,mn,mc,rfl,hd,hb11⟩
    have H11:=Lh (aI (DAt.mono (fun _ k=>k.2) _ _ hd:DAt w11 (fun k=>k<w11.heap.size) t2.toD _) (aI (H10.out.1.trans (hb11.mono H10.out.1.size)) (aI (H10.out.2.2.later hb11 hb11.size) (H5.out.2.1.trans ((H10.out.2.1.trans (hb11.mono H10.out.2.1.size)).mono H5.out.2.1.size)))))
    clear hd hb11 c0 c1 c2 c3 c4 x0 x1 x2 x3 x4 x5
    simp only
    go_upto_region 15 with fail
    obtain ⟨w12,hW12⟩:∃ w12,w12=w11.alloc (.cells #[.int .i64 m0,.int .i64 m1,.int .i64 m2,.slice ma mn mc] 39):=⟨_,rfl⟩
    rw [<- hW12]
    have hb12:Below w11.heap.size w11 w12:=by rw [hW12];exact (Below.refl _ _).alloc (Nat.le_refl _) _
    have H12:=Lh (H11.out.2.1.trans (hb12.mono H11.out.2.1.size))
    have H4C:=Lh (H11.out.2.2.2.trans (hb12.mono H11.out.2.2.2.size))
    have HU12:=Lh (H11.out.2.2.1.later hb12 hb12.size)
    have HD12:=Lh (DAt.mono (fun k (hk:k<w11.heap.size)=>Nat.lt_of_lt_of_le hk hb12.size) _ _ (DAt.agree (agree_of_below hb12) _ _ H11.out.1))
    have HX12:Hid (w12.heap[w11.heap.size]?=some (.cells #[.int .i64 m0,.int .i64 m1,.int .i64 m2,.slice ma mn mc] 39 (0,0))):=Lh (by rw [hW12,heap_get,if_pos rfl])
    clear hW12 hb12
    rcases HVV.out with hi | ⟨hi,hsz2,hvv⟩
    ·try simp only at hi
     subst hi
     clear HVV
     go_wp2_with fail
     go_ret
     exact ⟨rfl,(HE.out _ H12.out).1⟩
    ·try simp only at hi hsz2 hvv
     subst hi
     obtain ⟨q1,d1⟩:=H4.out.2 w12 H4C.out
     have HT1:=Lh (aI q1 d1)
     have HK:Hid (∀ W,Below w12.heap.size w12 W->(W.cell? ⟨w3.heap.size,0,none⟩=some (.int .i64 k0)/\W.cell? ⟨w3.heap.size,1,none⟩=some (.int .i64 k1)/\W.cell? ⟨w3.heap.size,2,none⟩=some (.int .i64 k2)/\W.cell? ⟨w3.heap.size,3,none⟩=some (.slice ta tn tc))/\(W.cell? ⟨w11.heap.size,0,none⟩=some (.int .i64 m0)/\W.cell? ⟨w11.heap.size,1,none⟩=some (.int .i64 m1)/\W.cell? ⟨w11.heap.size,2,none⟩=some (.int .i64 m2)/\W.cell? ⟨w11.heap.size,3,none⟩=some (.slice ma mn mc))):=Lh (fun W hW=>by
      have e1:=(hW.block _ (gS HT1.out.1).1).trans HT1.out.1
      have e2:=(hW.block _ (gS HX12.out).1).trans HX12.out
      exact ⟨⟨cH e1 rfl,cH e1 rfl,cH e1 rfl,cH e1 rfl⟩,cH e2 rfl,cH e2 rfl,cH e2 rfl,cH e2 rfl⟩)
     have HV1:=Lh (fun (W:World) (hW:Below w12.heap.size w12 W)=>gval_any a u t.size t _ W (Nat.le_refl _) (by have:=HSZ.out;omega) HTL.out (DAt.mono (fun k (hk:k<w12.heap.size)=>Nat.lt_of_lt_of_le hk hW.size) _ _ (DAt.agree (agree_of_below hW) _ _ HT1.out.2)) (HU12.out.later hW hW.size))
     have HV2:=Lh (fun (W:World) (hW:Below w12.heap.size w12 W)=>gval_any a u t2.size t2 _ W (Nat.le_refl _) (by omega) HTL.out (DAt.mono (fun k (hk:k<w12.heap.size)=>Nat.lt_of_lt_of_le hk hW.size) _ _ (DAt.agree (agree_of_below hW) _ _ HD12.out)) (HU12.out.later hW hW.size))
     rw [<- hvv] at HV2
     generalize valG t a=vv at HV1 HV2
     clear q1 d1 hvv hsz2 HVV
     go_upto_region 17 with fail
     go_region_held3 (fun w'=>(w'.cell? ⟨w3.heap.size,0,none⟩=some (.int .i64 k0)/\w'.cell? ⟨w3.heap.size,1,none⟩=some (.int .i64 k1)/\w'.cell? ⟨w3.heap.size,2,none⟩=some (.int .i64 k2)/\w'.cell? ⟨w3.heap.size,3,none⟩=some (.slice ta tn tc))/\(w'.cell? ⟨w11.heap.size,0,none⟩=some (.int .i64 m0)/\w'.cell? ⟨w11.heap.size,1,none⟩=some (.int .i64 m1)/\w'.cell? ⟨w11.heap.size,2,none⟩=some (.int .i64 m2)/\w'.cell? ⟨w11.heap.size,3,none⟩=some (.slice ma mn mc))) ((refine HK.out _ ?_;first | exact HC2.out | exact HC1.out | exact (Below.refl _ _).drew | fail))
      (first
       | (go_at_call 21;refine (HV2.out _ HC1.out).mono ?_;rintro e w14 ⟨rfl,hbb⟩;have HC2:=Lh (HC1.out.trans (hbb.mono HC1.out.size));clear hbb)
       | (go_at_call 21;refine (HV1.out _ (Below.refl _ _).drew).mono ?_;rintro e w13 ⟨rfl,hbb⟩;have HC1:=Lh ((Below.refl _ _).drew.trans hbb:Below w12.heap.size w12 _);clear hbb))
     all_goals
      cases vv
      all_goals
       go_wp2_with fail
       go_ret
       exact ⟨rfl,(HE.out _ (H12.out.trans (HC2.out.mono H12.out.size))).1⟩
   ·have z1:(gc != 0)=true:=by simpa using hgc
    clear hgc
    go_wp2_with fail
    go_ret
    exact ⟨rfl,(HE.out _ H5.out.2.2).1⟩
  ·have z1:(ec != 0)=true:=by simpa using hec
   have z2:(ec==0)=false:=by simpa using hec
   have hzt:=HPB.out.1 hec
   obtain ⟨q1,_⟩:=H4.out.2 w5 H5.out.2.1
   have l1:=(gS q1).1
   have hk0:k0=0:=by rw [HKD.out,hzt];rfl
   subst hk0
   have m0:w5.cell? ⟨w3.heap.size,0,none⟩=some (.int .i64 0):=cH q1 rfl
   clear q1 hec hzt
   go_wp2_with fail
   go_ret
   exact ⟨rfl,(HE.out _ H5.out.2.2).1⟩
end Go.Proofs.YtjjkfgjnadaheaaGreatDoor
