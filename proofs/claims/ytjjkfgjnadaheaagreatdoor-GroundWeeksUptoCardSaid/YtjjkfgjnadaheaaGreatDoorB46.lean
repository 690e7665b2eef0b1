/- Joined texts: GOne. -/
import Derived.Test.YtjjkfgjnadaheaaGreatDoorB40
import Derived.Test.YtjjkfgjnadaheaaGreatDoorB09
set_option linter.unusedVariables false
set_option linter.unusedSimpArgs false
set_option maxHeartbeats 4000000
set_option maxRecDepth 100000

/- ground.one: exactly one of some variables. (written by tools/gen_gone.py) -/
namespace Go.Chalk
open Go.RowKit
def leafT (v:Int):Tr:=.mk 2 v 0 []
theorem leaf_iff {W:World} {F:Nat->Prop} {v:Int} {cs:List Value}:DAt W F (leafT v).toD cs->∀ (W':World) (G:Nat->Prop),DAt W' G (leafT v).toD cs:=fun h W' G=>by
 unfold leafT at h ⊢
 obtain ⟨a,b,o,cap,rfl,_,h1,h2,h3,h4,h5,_⟩:=Tr.open h
 have ha:cap<=maxLen:=h5
 rw [Tr.toD] at h
 simp only [DAt,DsAt] at h
 obtain ⟨_,_,e1,⟨rfl,_⟩,_,_,e2,⟨rfl,_⟩,_,_,e3,⟨rfl,_⟩,_,_,e4,⟨a',b',o',cap',rfl,hs,_,_,_⟩,rfl⟩:=h
 have:=Tr.close (W:=W') (F:=G) (u:=⟨a,b,o,cap⟩) (ts:=[]) h1 h2 h3 ⟨fun h=>by simp at h,Nat.zero_le _,ha,by rw [List.map_nil,RowAt];trivial⟩
 exact this
theorem leaves_iff {W:World} {F:Nat->Prop}:∀ (vs:List Int) (cs:List Value),DsAt W F ((vs.map leafT).map Tr.toD) cs->∀ (W':World) (G:Nat->Prop),DsAt W' G ((vs.map leafT).map Tr.toD) cs
 | [],cs,h,W',G=>by rw [List.map_nil,List.map_nil,DsAt] at h ⊢;exact h
 | v :: r,cs,h,W',G=>by
  rw [List.map_cons,List.map_cons,DsAt] at h ⊢
  obtain ⟨c1,c2,rfl,h1,h2⟩:=h
  exact ⟨c1,c2,rfl,leaf_iff h1 W' G,leaves_iff r c2 h2 W' G⟩
theorem leaf_at {W:World} {F:Nat->Prop} {v:Int} (hv:I64 v):DAt W F (leafT v).toD [.int .i64 2,.int .i64 v,.int .i64 0,.slice none 0 0]:=Tr.close (u:=⟨none,0,0,0⟩) (i64_small (by decide) (by decide)) hv (i64_small (by decide) (by decide)) (SlIn.nil (Nat.zero_le _) _ _ _)
end Go.Chalk
namespace Go.Proofs.YtjjkfgjnadaheaaGreatDoor
open Go.RowKit Go.Chalk
attribute [local go_sem] Oper.semAt_some
theorem clone_Tre (l:List Tr) (x:SlA) (w:World) (hx:SlIn w (·<w.heap.size) (l.map Tr.toD) x) (hmax:l.length<=2000000) :
  Calls Tryz.prog 92 #[x.val l.length] w fun e w'=>∃ v r,e=.returned v/\Chalk.Own w' (fun k=>k<w.heap.size) 39 4 v r (l.map Tr.toD)/\(∀ k,r=some k->w.heap.size<=k)/\Below w.heap.size w w':=by
 obtain ⟨i0,hi,hz0,hz1,hz2⟩:=info_parts infoTree
 have hq:=fun (w:World) (a:Option Addr) (n c:Nat)=>Lib.run_eql_slice_nil (P:=Tryz.prog) w 37 39 a n c 0 0 Tryz.underlying37
 have hlen:(l.map Tr.toD).length=l.length:=by simp
 by_cases hn:x.a=none
 ·have hl:l=[]:=by
   cases l with
   | nil=>rfl
   | cons y r=>have:=(hx.at_ (by simp)).1;rw [hn] at this;cases this
  subst hl
  obtain ⟨a,b,o,cap⟩:=x
  simp only at hn
  subst hn
  clear hx hi hz0 hz1 hz2
  go_enter Tryz.func92,Tryz.ntmps92
  go_wp2_with fail
  go_ret
  exact ⟨_,none,rfl,Chalk.Own.nil _ _ _ _ (fun _ h=>h),fun _ h=>(by cases h),Below.refl _ _⟩
 ·obtain ⟨a,b,o,cap⟩:=x
  obtain ⟨ad,rfl⟩:∃ ad,a=some ad:=Option.ne_none_iff_exists'.1 hn
  have hba:Below w.heap.size w (w.alloc (.cells #[] 39)):=(Below.refl _ _).alloc (Nat.le_refl _) _
  have hsrc:SlIn (w.alloc (.cells #[] 39)) (·<w.heap.size) (l.map Tr.toD) ⟨some ad,b,o,cap⟩:=hx.later hba (Nat.le_refl _)
  have hown:Chalk.Own (w.alloc (.cells #[] 39)) (·<w.heap.size) 39 4 (.slice (some ⟨w.heap.size,0,none⟩) 0 0) (some w.heap.size) []:=Chalk.Own.lit (w:=w) (n:=0) (cs:=[]) rfl (by unfold maxLen;omega) rfl (by rw [DsAt]) (fun _ h=>h)
  have HS:=Lh hsrc.d
  have HO:=Lh hown
  have HB:=Lh hba
  rw [hlen] at HS
  have HL:=Lh hlen
  clear hx hsrc hown hba hn hlen
  go_enter Tryz.func92,Tryz.ntmps92
  go_wp2_with (at_builtin;go_must (refine wpList_append_src _ (by rfl) _ _ _ rfl 39 i0 _ 4 48 Tryz.underlying37 hi hz0 hz1 hz2 rfl (by omega) (.slice (some ⟨w.heap.size,0,none⟩) 0 0) (.slice (some ad) l.length cap) (·<w.heap.size) (some w.heap.size) [] (l.map Tr.toD) rfl rfl HO.out HS.out (by rw [Tr.widths,HL.out]) (by rw [HL.out];simp;unfold maxLen;omega) (by rw [HL.out];simp;omega) ?_);intro oa ocap orow w5 hown hmod hat;have HOW:=Lh hown;have HM:=Lh hmod;clear hown hmod;rw [HL.out];simp only [List.length_nil,Nat.zero_add])
  go_ret
  have hbb:Below w.heap.size w w5:=HB.out.trans (HM.out.below HB.out.size (fun k hk=>by simp at hk;omega))
  have h1:=HOW.out
  rw [List.nil_append,List.length_nil,Nat.zero_add,HL.out] at h1
  refine ⟨_,orow,rfl,h1,fun k hk=>?_,hbb⟩
  rcases hat with h | h
  ·rw [h] at hk;simp at hk;omega
  ·rw [h] at hk;simp at hk;omega

theorem one1_any (k:Int) (vs:List Int) (u:SlA) (w:World) (b:Nat) (hk:I64 k) (hb:w.heap[b]?=some (.cells #[.slice u.a vs.length u.cap] 37 (0,0))) (hu:SlIn w (·<w.heap.size) ((vs.map leafT).map Tr.toD) u) (hmax:vs.length<=2000000) :
  Calls Tryz.prog 91 #[.int .i64 k,.pointer (some ⟨b,0,none⟩)] w fun e w'=>∃ u':SlA,e=.returned (.agg #[.int .i64 6,.int .i64 0,.int .i64 k,.slice u'.a vs.length u'.cap])/\SlIn w' (fun j=>w.heap.size<=j/\j<w'.heap.size) ((vs.map leafT).map Tr.toD) u'/\Below w.heap.size w w':=by
 have hb0:Below w.heap.size w (w.alloc (.cells #[.int .i64 0,.int .i64 0,.int .i64 0,.slice none 0 0] 39)):=(Below.refl _ _).alloc (Nat.le_refl _) _
 have hc:=clone_Tre (vs.map leafT) u (w.alloc (.cells #[.int .i64 0,.int .i64 0,.int .i64 0,.slice none 0 0] 39)) (hu.later hb0 hb0.size) (by simpa using hmax)
 rw [List.length_map] at hc
 have HC:=Lh hc
 have c0:w.cell? ⟨b,0,none⟩=some (.slice u.a vs.length u.cap):=cH hb rfl
 have hbl:=(gS hb).1
 have HB:=Lh hb0
 have hq0:(w.alloc (.cells #[.int .i64 0,.int .i64 0,.int .i64 0,.slice none 0 0] 39)).heap[w.heap.size]?=some (.cells #[.int .i64 0,.int .i64 0,.int .i64 0,.slice none 0 0] 39 (0,0)):=by rw [heap_get,if_pos rfl]
 have HQ:=Lh hq0
 clear hc hb hu hb0 hmax hq0
 go_enter Tryz.func91,Tryz.ntmps91
 go_wp2_with fail
 refine HC.out.mono ?_
 rintro e w1 ⟨v,r,rfl,hown,hr,hb1⟩
 have hq1:=(hb1.block w.heap.size (by simp)).trans HQ.out
 have x0:w1.cell? ⟨w.heap.size,0,none⟩=some (.int .i64 0):=cH hq1 rfl
 have f0:w1.frozen? ⟨w.heap.size,0,none⟩=false:=fH hq1
 have x1:w1.cell? ⟨w.heap.size,1,none⟩=some (.int .i64 0):=cH hq1 rfl
 have f1:w1.frozen? ⟨w.heap.size,1,none⟩=false:=fH hq1
 have x2:w1.cell? ⟨w.heap.size,2,none⟩=some (.int .i64 0):=cH hq1 rfl
 have f2:w1.frozen? ⟨w.heap.size,2,none⟩=false:=fH hq1
 have x3:w1.cell? ⟨w.heap.size,3,none⟩=some (.slice none 0 0):=cH hq1 rfl
 have f3:w1.frozen? ⟨w.heap.size,3,none⟩=false:=fH hq1
 have hl1:=(gS hq1).1
 obtain ⟨cs,k1,k2⟩:=hown.cells
 have hown':Chalk.Own w1 (fun _=>False) 39 4 v r ((vs.map leafT).map Tr.toD):=⟨⟨cs,k1,leaves_iff vs cs k2 _ _⟩,hown.row,fun _ _ h=>h,fun _ h=>h.elim⟩
 obtain ⟨u',hu',hs'⟩:=hown'.sl (G:=fun j=>w.heap.size+1<=j/\j<w1.heap.size) (fun _ h=>h.elim) (fun j hj=>⟨by have:=hr j hj;simp at this;omega,hown'.row_lt hj⟩) (by rw [Tr.widths];simp)
 rw [List.length_map,List.length_map] at hu'
 subst hu'
 have HF:=Lh (aI hs' (aI (HB.out.trans (hb1.mono HB.out.size)) hq1))
 clear hown hown' hr hb1 k1 k2 hs' hq1
 go_wp2_with fail
 have hq3:=put4_heap HF.out.2.2 (.int .i64 6) (.int .i64 0) (.int .i64 k) (.slice u'.a vs.length u'.cap)
 have hm3:=put4_mod w1 w.heap.size 0 (.int .i64 6) (.int .i64 0) (.int .i64 k) (.slice u'.a vs.length u'.cap)
 unfold put4 at hq3 hm3
 simp only [Nat.zero_add] at hq3 hm3
 generalize (((w1.setCell _ _).setCell _ _).setCell _ _).setCell _ _=W3 at hq3 hm3 ⊢
 have HY:=Lh (aI hq3 hm3)
 have y0:W3.cell? ⟨w.heap.size,0,none⟩=some (.int .i64 6):=cH hq3 rfl
 have y1:W3.cell? ⟨w.heap.size,1,none⟩=some (.int .i64 0):=cH hq3 rfl
 have y2:W3.cell? ⟨w.heap.size,2,none⟩=some (.int .i64 k):=cH hq3 rfl
 have y3:W3.cell? ⟨w.heap.size,3,none⟩=some (.slice u'.a vs.length u'.cap):=cH hq3 rfl
 clear hq3 hm3
 refine bodyPost_ret (v:=.agg #[.int .i64 6,.int .i64 0,.int .i64 k,.slice u'.a vs.length u'.cap]) (by simp [results,Tryz.results91,go_sem,y0,y1,y2,y3]) rfl ?_
 have hz:=HY.out.2.size
 refine ⟨u',rfl,(HF.out.1.agree (HY.out.2.agree (fun j hj=>⟨hj.2,by have:=hj.1;omega⟩))).mono (fun j hj=>⟨by omega,by omega⟩),HF.out.2.1.trans (HY.out.2.below HF.out.2.1.size (fun j hj=>by omega))⟩

def OneRel (w:World) (vs:List Int) (j:Nat) (W:World):Prop:=(∃ T1,BoxMb W w.heap.size (w.heap.size+1) 37 39 (((vs.take j).map leafT).map Tr.toD) T1)/\W.heap[w.heap.size]?=some (.cells #[.int .i64 0,.int .i64 0,.int .i64 0,.slice none 0 0] 39 (0,0))/\Below w.heap.size w W
theorem one_any (F:Nat) (lb:Array Value) (vs:List Int) (w:World) (hFe:∀ args w,(callFunc F args).run Tryz.prog w=.ok (.enter F args) w) (hv:∀ v∈vs,I64 v) (hmax:vs.length<=2000000)
  (hF:∀ (j:Nat) (v:Int) (W:World),vs[j]?=some v->Below w.heap.size w W->Calls Tryz.prog F (#[.int .i64 j]++lb) W fun e W'=>e=.returned (.int .i64 v)/\Below W.heap.size W W') :
  Calls Tryz.prog 42 #[.int .i64 vs.length,.func (.func F) #[] lb] w fun e w'=>∃ cs,e=.returned (.agg cs)/\DAt w' (fun k=>w.heap.size<=k/\k<w'.heap.size) (oneT vs).toD cs.toList/\Below w.heap.size w w':=by
 have HFF:=Lh hF
 have HV:=Lh (aI hv hmax)
 have HCF:=Lh hFe
 obtain ⟨W0,hW0⟩:∃ W0,W0=(w.alloc (.cells #[.int .i64 0,.int .i64 0,.int .i64 0,.slice none 0 0] 39)).alloc (.cells #[.slice none 0 0] 37):=⟨_,rfl⟩
 have hb0:Below w.heap.size w W0:=by rw [hW0];exact ((Below.refl _ _).alloc (Nat.le_refl _) _).alloc (by simp) _
 have hz0:W0.heap.size=w.heap.size+2:=by rw [hW0];simp
 have hq0:W0.heap[w.heap.size]?=some (.cells #[.int .i64 0,.int .i64 0,.int .i64 0,.slice none 0 0] 39 (0,0)):=by rw [hW0,heap_get,if_neg (by simp),heap_get,if_pos rfl]
 have hq1:W0.heap[w.heap.size+1]?=some (.cells #[.slice none 0 0] 37 (0,0)):=by rw [hW0,heap_get,if_pos (by simp)]
 have HB:=Lh (aI hb0 (aI hq0 (aI hq1 hz0)))
 have HW0:=Lh hW0
 have hmf:∀ (fn:Fn) (first cap:Array Value) (w:World),(Instr.makeFunc fn first cap).run Tryz.prog w=.ok (.func fn first cap) w:=fun _ _ _ _=>rfl
 clear hF hb0 hq0 hq1 hW0 hv hz0
 obtain ⟨i0,hi0,hz0',hz1',hz2'⟩:=info_parts infoTree
 go_enter Tryz.func42,Tryz.ntmps42
 go_wp2_with fail
 rw [<- HW0.out]
 go_loopw [9] (fun i wr=>∃ j:Nat,j<=vs.length/\i=.int .i64 j/\Hid (OneRel w vs j wr)) (fun i _=>vs.length - (intOf i).toNat)
 case atStart =>
  refine ⟨0,Nat.zero_le _,rfl,Lh ⟨⟨fun k=>k=w.heap.size+1∨k=w.heap.size,fun k=>k=w.heap.size+1,fun k=>Iff.rfl,.slice none 0 0,none,HB.out.2.2.1,rfl,(fun _ h=>by cases h),(fun k hk=>by have:=HB.out.2.2.2;omega),Chalk.Own.nil _ _ _ _ (fun k hk=>absurd hk.1 hk.2.1)⟩,HB.out.2.1,HB.out.1⟩⟩
 case round =>
  obtain ⟨j,hj,rfl,HR⟩:=hrel
  by_cases hlt:j<vs.length
  ·obtain ⟨⟨T1,T',hTT,v0,r,b1,b2,b3,b4,b5⟩,hqr,hbr⟩:=HR.out
   have hxn:(((vs.take j).map leafT).map Tr.toD).length=j:=by simp;omega
   obtain ⟨oa,ocap,hv0⟩:=b5.form
   subst hv0
   rw [hxn] at b1 b5
   obtain ⟨v,hvj⟩:∃ v,vs[j]?=some v:=⟨vs[j],List.getElem?_eq_getElem hlt⟩
   have hvI:I64 v:=HV.out.1 v (List.mem_of_getElem? hvj)
   have htk:((vs.take (j+1)).map leafT).map Tr.toD=((vs.take j).map leafT).map Tr.toD++[(leafT v).toD]:=by
    rw [List.take_add_one,hvj];simp
   have HCA:=Lh (fun (W:World) (hW:Below w.heap.size w W)=>HFF.out j v W hvj hW)
   have HKS:Hid (∀ w',Below wr.heap.size wr w'->w'.cell? ⟨w.heap.size+1,0,none⟩=some (.slice oa j ocap)):=Lh (fun w' hW=>cH ((hW.block _ (gS b1).1).trans b1) rfl)
   have HOW:Hid (∀ wc,Below wr.heap.size wr wc->Chalk.Own wc (fun k=>T' k/\k ≠ w.heap.size+1/\r ≠ some k) 39 4 (.slice oa j ocap) r (((vs.take j).map leafT).map Tr.toD)):=Lh (fun wc hwc=>b5.below hwc)
   have HH7:Hid (∀ wc w7,Below wr.heap.size wr wc->Chalk.Mod (fun k=>r=some k) wc w7->w7.heap[w.heap.size+1]?=some (.cells #[.slice oa j ocap] 37 (0,0))):=Lh (fun wc w7 h1 h2=>heap_kept ((h1.block _ (gS b1).1).trans b1) h2 (fun h=>(b3 _ h).2 rfl))
   have HGH:Hid (∀ (wc:World) (g':Nat),Below wr.heap.size wr wc->(r=some g'∨g'=wc.heap.size)->g' ≠ w.heap.size+1):=Lh (fun wc g' h1 h2=>by
    rcases h2 with h | h
    ·exact (b3 _ h).2
    ·have:=h1.size;have:=(gS b1).1;omega)
   have HFN:Hid (∀ (wc w7 wf:World) (g' cap:Nat) (cs:List Value) (z0 z1 z2 z3:Value),Below wr.heap.size wr wc ->
     DsAt wc (fun k=>T' k/\k ≠ w.heap.size+1/\r ≠ some k) (((vs.take j).map leafT).map Tr.toD) cs->w7.ownsRow 0 39 4 (.slice (some ⟨g',0,none⟩) (j+1) cap) (j+1) (cs++[z0,z1,z2,z3])->Chalk.Mod (fun k=>r=some k) wc w7->(r=some g'∨g'=wc.heap.size)->g'<w7.heap.size ->
     (wf=(put4 w7 g' (j*4) (.int .i64 2) (.int .i64 v) (.int .i64 0) (.slice none 0 0)).setCell ⟨w.heap.size+1,0,none⟩ (.slice (some ⟨g',0,none⟩) (j+1) cap)∨wf=put4 (w7.setCell ⟨w.heap.size+1,0,none⟩ (.slice (some ⟨g',0,none⟩) (j+1) cap)) g' (j*4) (.int .i64 2) (.int .i64 v) (.int .i64 0) (.slice none 0 0)) ->
     OneRel w vs (j+1) wf):=Lh (fun wc w7 wf g' cap cs z0 z1 z2 z3 h1 h5 h6 h7 h8 h9 h10=>by
    obtain ⟨⟨T2,k1,k2,k3⟩,k4⟩:=each_end (mb:=w.heap.size) hTT (by omega) b1 b2 b3 b4 b5 h5 (Chalk.Mod.of_below (S:=fun k=>k=w.heap.size) h1) (leaf_at hvI) h6 h7 h8 h9 hxn h10
    refine ⟨⟨T2,by rw [htk];exact k3⟩,k4.trans ((h1.block _ (gS hqr).1).trans hqr),hbr.trans (k2.below hbr.size (fun k hk=>?_))⟩
    rcases (hTT k).1 hk with h | h
    ·have:=(b4 k h).1;omega
    ·omega)
   have HXN:=Lh hxn
   have HBR:=Lh (aI hbr (gS hqr).1)
   have hxl:=(gS b1).1
   have hjm:j<2000000:=by have:=HV.out.2;omega
   have hcf:=HCF.out
   clear hTT b1 b2 b3 b4 b5 hqr hbr hxn htk hvI hvj HR
   go_wp2_with fail
   refine wp_region_noPanic ?_
   refine wp_region_U 7 (S:=fun w'=>w'.cell? ⟨w.heap.size+1,0,none⟩=some (.slice oa j ocap)) (by kernel_rfl) (HKS.out _ (Below.refl _ _).drew) (fun hHeld=>?_)
   refine tkU (i:=0) rfl hHeld ?_
   try simp only [Act.put,ub1,ub2,ub3]
   refine tkU (i:=1) rfl hHeld ?_
   try simp only [Act.put,ub1,ub2,ub3]
   refine tkU (i:=2) rfl hHeld ?_
   try simp only [Act.put,ub1,ub2,ub3]
   refine tkU (i:=5) rfl hHeld ?_
   try simp only [Act.put,ub1,ub2,ub3]
   refine ready_U (rs:=[3,6]) (by kernel_rfl) (by simp) ?_
   refine cons_U rfl (fun K hK=>?_) (cons_U rfl (fun K hK=>?_) nil_U)
   ·go_simp
    (with_reducible refine (HCA.out wr.drew (HBR.out.1.trans ((Below.refl wr.heap.size wr).drew.mono HBR.out.1.size))).mono ?_)
    rintro e w2 ⟨rfl,hb2⟩
    have K2:=Lh (Below.trans (Below.refl wr.heap.size wr).drew (hb2.mono (Nat.le_refl _)))
    clear hb2
    go_simp
    refine hK.out _ _ ?_ (fun hHeld2=>?_)
    ·exact HKS.out _ K2.out
    clear hK K hHeld
    have hHeld:=hHeld2
    clear hHeld2
    try simp only [Act.put,ub1,ub2,ub3]
    refine tkU (i:=4) rfl hHeld ?_
    try simp only [Act.put,ub1,ub2,ub3]
    refine ready_U (rs:=[6]) (by kernel_rfl) (by simp) ?_
    refine cons_U rfl (fun K hK=>?_) nil_U
    go_simp
    refine hK.out _ _ ?_ (fun hHeld2=>?_)
    ·exact HKS.out _ (K2.out.alloc K2.out.size _)
    clear hK K hHeld
    have hHeld:=hHeld2
    clear hHeld2
    try simp only [Act.put,ub1,ub2,ub3]
    refine ready_U (rs:=[7]) (by kernel_rfl) (by simp) ?_
    refine cons_V rfl (by kernel_rfl) (fun K hK=>?_) nil_U
    refine step_append_zero (W0:=(w2.alloc (.cells #[.int .i64 0,.int .i64 0,.int .i64 0,.slice none 0 0] 39))) (by rfl) _ _ 37 (by rfl) 39 i0 _ 48 Tryz.underlying37 hi0 hz0' hz1' hz2' rfl oa ocap j _ r w2.heap.size (.int .i64 0) (.int .i64 0) (.int .i64 0) (.slice none 0 0) 39 (by rfl) (by rfl) (HOW.out _ (K2.out.alloc K2.out.size _)) HXN.out (by rw [heap_get,if_pos rfl]) (by simp [Value.oneCell']) (by unfold maxLen;omega) (by omega) ?_
    intro g' cap cs w7 q1 q2 q3 q4 q5
    obtain ⟨⟨x0',x1',x2',x3'⟩,xf,xl,xc⟩:=row_cells q2
    have hgH:=HGH.out _ g' (K2.out.alloc K2.out.size _) q4
    have hb7:=HH7.out _ _ (K2.out.alloc K2.out.size _) q3
    have xH:w7.cell? ⟨w.heap.size+1,0,none⟩=some (.slice oa j ocap):=cH hb7 rfl
    have xHf:w7.frozen? ⟨w.heap.size+1,0,none⟩=false:=fH hb7
    have xHl:=(gS hb7).1
    have hb7:=Lh hb7
    have HF:=Lh (fun wf h=>HFN.out (w2.alloc (.cells #[.int .i64 0,.int .i64 0,.int .i64 0,.slice none 0 0] 39)) w7 wf g' cap cs _ _ _ _ (K2.out.alloc K2.out.size _) q1 q2 q3 q4 q5 h)
    have xf0:=xf (j*4)
    have xf1:=xf (j*4+1)
    have xf2:=xf (j*4+2)
    have xf3:=xf (j*4+3)
    have hii:(j:Int)<(j:Int)+1:=by omega
    clear q1 q2 q3 q4 xf
    refine hK.out _ _ ?_
    clear hK K
    try simp only [Act.put,ub1,ub2,ub3]
    refine take_V (i:=8) (v:=?_) rfl (by kernel_rfl) (by kernel_rfl) (by kernel_rfl) (by kernel_rfl) (fun _ _ _ h=>h) (by rfl) ?_ ?_
    rotate_left
    ·intro w;go_simp;all_goals (with_reducible rfl)
    try simp only [Act.put,ub1,ub2,ub3]
    refine ready_U (rs:=[9,10]) (by kernel_rfl) (by simp) ?_
    refine cons_V rfl (by kernel_rfl) (fun K hK=>?_) (cons_V rfl (by kernel_rfl) (fun K hK=>?_) nil_U)
    ·go_simp
     refine hK.out _ _ ?_
     clear hK K
     try simp only [Act.put,ub1,ub2,ub3]
     generalize hw8:(((w7.setCell _ _).setCell _ _).setCell _ _).setCell _ _=w8
     have hm8:Chalk.Mod (fun k=>k=g') w7 w8:=by rw [<- hw8];exact put4_mod _ _ _ _ _ _ _
     have yb:=hm8.block _ xHl (Ne.symm hgH)
     have yH:w8.cell? ⟨w.heap.size+1,0,none⟩=some (.slice oa j ocap):=(World.cell?_of_block yb).trans xH
     have yHf:w8.frozen? ⟨w.heap.size+1,0,none⟩=false:=fH (yb.trans hb7.out)
     have HW8:=Lh hw8
     clear hw8 hm8 yb
     refine ready_U (rs:=[10]) (by kernel_rfl) (by simp) ?_
     refine cons_V rfl (by kernel_rfl) (fun K hK=>?_) nil_U
     go_simp
     refine hK.out _ _ ?_
     clear hK K
     try simp only [Act.put,ub1,ub2,ub3]
     refine done_U (by kernel_rfl) ?_ _
     refine NoPanic.normal ?_
     go_wp2_with fail
     go_roundw
     case measure=>simp [intOf];omega
     case rel=>exact ⟨j+1,by omega,by go_num,Lh (HF.out _ (.inl (by rw [<- HW8.out];rfl)))⟩
    ·go_simp
     refine hK.out _ _ ?_
     clear hK K
     try simp only [Act.put,ub1,ub2,ub3]
     generalize hw8:w7.setCell _ _=w8
     have hm8:Chalk.Mod (fun k=>k=w.heap.size+1) w7 w8:=by rw [<- hw8];exact (Chalk.Mod.refl (fun k=>k=w.heap.size+1) w7).setCell (p:=⟨w.heap.size+1,0,none⟩) (fun _=>rfl) _
     have yb:=hm8.block g' xl hgH
     have y0:=(World.cell?_of_block (a:=⟨g',j*4,none⟩) yb).trans x0'
     have y1':=(World.cell?_of_block (a:=⟨g',j*4+1,none⟩) yb).trans x1'
     have y2:=(World.cell?_of_block (a:=⟨g',j*4+2,none⟩) yb).trans x2'
     have y3:=(World.cell?_of_block (a:=⟨g',j*4+3,none⟩) yb).trans x3'
     have yf0:=(World.frozen?_of_block (a:=⟨g',j*4,none⟩) yb).trans xf0
     have yf1:=(World.frozen?_of_block (a:=⟨g',j*4+1,none⟩) yb).trans xf1
     have yf2:=(World.frozen?_of_block (a:=⟨g',j*4+2,none⟩) yb).trans xf2
     have yf3:=(World.frozen?_of_block (a:=⟨g',j*4+3,none⟩) yb).trans xf3
     have HW8:=Lh hw8
     clear hw8 hm8 yb
     refine ready_U (rs:=[9]) (by kernel_rfl) (by simp) ?_
     refine cons_V rfl (by kernel_rfl) (fun K hK=>?_) nil_U
     go_simp
     refine hK.out _ _ ?_
     clear hK K
     try simp only [Act.put,ub1,ub2,ub3]
     refine done_U (by kernel_rfl) ?_ _
     refine NoPanic.normal ?_
     go_wp2_with fail
     go_roundw
     case measure=>simp [intOf];omega
     case rel=>exact ⟨j+1,by omega,by go_num,Lh (HF.out _ (.inr (by rw [<- HW8.out];rfl)))⟩
   ·go_simp
    refine hK.out _ _ ?_ (fun hHeld2=>?_)
    ·exact HKS.out _ (((Below.refl wr.heap.size wr).alloc (Nat.le_refl _) _).drew)
    clear hK K hHeld
    have hHeld:=hHeld2
    clear hHeld2
    try simp only [Act.put,ub1,ub2,ub3]
    refine ready_U (rs:=[3]) (by kernel_rfl) (by simp) ?_
    refine cons_U rfl (fun K hK=>?_) nil_U
    go_simp
    (with_reducible refine (HCA.out (wr.alloc (.cells #[.int .i64 0,.int .i64 0,.int .i64 0,.slice none 0 0] 39)).drew (HBR.out.1.trans (((Below.refl wr.heap.size wr).alloc (Nat.le_refl _) _).drew.mono HBR.out.1.size))).mono ?_)
    rintro e w2 ⟨rfl,hb2⟩
    have HZ2:Hid (w2.heap[wr.heap.size]?=some (.cells #[.int .i64 0,.int .i64 0,.int .i64 0,.slice none 0 0] 39 (0,0))):=Lh ((hb2.block _ (by simp)).trans (by show (wr.alloc _).heap[wr.heap.size]?=_;rw [heap_get,if_pos rfl]))
    have K2:=Lh (Below.trans ((Below.refl wr.heap.size wr).alloc (Nat.le_refl _) _).drew (hb2.mono (by simp)))
    clear hb2
    go_simp
    refine hK.out _ _ ?_ (fun hHeld2=>?_)
    ·exact HKS.out _ K2.out
    clear hK K hHeld
    have hHeld:=hHeld2
    clear hHeld2
    try simp only [Act.put,ub1,ub2,ub3]
    refine tkU (i:=4) rfl hHeld ?_
    try simp only [Act.put,ub1,ub2,ub3]
    refine ready_U (rs:=[7]) (by kernel_rfl) (by simp) ?_
    refine cons_V rfl (by kernel_rfl) (fun K hK=>?_) nil_U
    refine step_append_zero (W0:=w2) (by rfl) _ _ 37 (by rfl) 39 i0 _ 48 Tryz.underlying37 hi0 hz0' hz1' hz2' rfl oa ocap j _ r wr.heap.size (.int .i64 0) (.int .i64 0) (.int .i64 0) (.slice none 0 0) 39 (by rfl) (by rfl) (HOW.out _ (K2.out)) HXN.out (HZ2.out) (by simp [Value.oneCell']) (by unfold maxLen;omega) (by omega) ?_
    intro g' cap cs w7 q1 q2 q3 q4 q5
    obtain ⟨⟨x0',x1',x2',x3'⟩,xf,xl,xc⟩:=row_cells q2
    have hgH:=HGH.out _ g' (K2.out) q4
    have hb7:=HH7.out _ _ (K2.out) q3
    have xH:w7.cell? ⟨w.heap.size+1,0,none⟩=some (.slice oa j ocap):=cH hb7 rfl
    have xHf:w7.frozen? ⟨w.heap.size+1,0,none⟩=false:=fH hb7
    have xHl:=(gS hb7).1
    have hb7:=Lh hb7
    have HF:=Lh (fun wf h=>HFN.out w2 w7 wf g' cap cs _ _ _ _ (K2.out) q1 q2 q3 q4 q5 h)
    have xf0:=xf (j*4)
    have xf1:=xf (j*4+1)
    have xf2:=xf (j*4+2)
    have xf3:=xf (j*4+3)
    have hii:(j:Int)<(j:Int)+1:=by omega
    clear q1 q2 q3 q4 xf
    refine hK.out _ _ ?_
    clear hK K
    try simp only [Act.put,ub1,ub2,ub3]
    refine take_V (i:=8) (v:=?_) rfl (by kernel_rfl) (by kernel_rfl) (by kernel_rfl) (by kernel_rfl) (fun _ _ _ h=>h) (by rfl) ?_ ?_
    rotate_left
    ·intro w;go_simp;all_goals (with_reducible rfl)
    try simp only [Act.put,ub1,ub2,ub3]
    refine ready_U (rs:=[9,10]) (by kernel_rfl) (by simp) ?_
    refine cons_V rfl (by kernel_rfl) (fun K hK=>?_) (cons_V rfl (by kernel_rfl) (fun K hK=>?_) nil_U)
    ·go_simp
     refine hK.out _ _ ?_
     clear hK K
     try simp only [Act.put,ub1,ub2,ub3]
     generalize hw8:(((w7.setCell _ _).setCell _ _).setCell _ _).setCell _ _=w8
     have hm8:Chalk.Mod (fun k=>k=g') w7 w8:=by rw [<- hw8];exact put4_mod _ _ _ _ _ _ _
     have yb:=hm8.block _ xHl (Ne.symm hgH)
     have yH:w8.cell? ⟨w.heap.size+1,0,none⟩=some (.slice oa j ocap):=(World.cell?_of_block yb).trans xH
     have yHf:w8.frozen? ⟨w.heap.size+1,0,none⟩=false:=fH (yb.trans hb7.out)
     have HW8:=Lh hw8
     clear hw8 hm8 yb
     refine ready_U (rs:=[10]) (by kernel_rfl) (by simp) ?_
     refine cons_V rfl (by kernel_rfl) (fun K hK=>?_) nil_U
     go_simp
     refine hK.out _ _ ?_
     clear hK K
     try simp only [Act.put,ub1,ub2,ub3]
     refine done_U (by kernel_rfl) ?_ _
     refine NoPanic.normal ?_
     go_wp2_with fail
     go_roundw
     case measure=>simp [intOf];omega
     case rel=>exact ⟨j+1,by omega,by go_num,Lh (HF.out _ (.inl (by rw [<- HW8.out];rfl)))⟩
    ·go_simp
     refine hK.out _ _ ?_
     clear hK K
     try simp only [Act.put,ub1,ub2,ub3]
     generalize hw8:w7.setCell _ _=w8
     have hm8:Chalk.Mod (fun k=>k=w.heap.size+1) w7 w8:=by rw [<- hw8];exact (Chalk.Mod.refl (fun k=>k=w.heap.size+1) w7).setCell (p:=⟨w.heap.size+1,0,none⟩) (fun _=>rfl) _
     have yb:=hm8.block g' xl hgH
     have y0:=(World.cell?_of_block (a:=⟨g',j*4,none⟩) yb).trans x0'
     have y1':=(World.cell?_of_block (a:=⟨g',j*4+1,none⟩) yb).trans x1'
     have y2:=(World.cell?_of_block (a:=⟨g',j*4+2,none⟩) yb).trans x2'
     have y3:=(World.cell?_of_block (a:=⟨g',j*4+3,none⟩) yb).trans x3'
     have yf0:=(World.frozen?_of_block (a:=⟨g',j*4,none⟩) yb).trans xf0
     have yf1:=(World.frozen?_of_block (a:=⟨g',j*4+1,none⟩) yb).trans xf1
     have yf2:=(World.frozen?_of_block (a:=⟨g',j*4+2,none⟩) yb).trans xf2
     have yf3:=(World.frozen?_of_block (a:=⟨g',j*4+3,none⟩) yb).trans xf3
     have HW8:=Lh hw8
     clear hw8 hm8 yb
     refine ready_U (rs:=[9]) (by kernel_rfl) (by simp) ?_
     refine cons_V rfl (by kernel_rfl) (fun K hK=>?_) nil_U
     go_simp
     refine hK.out _ _ ?_
     clear hK K
     try simp only [Act.put,ub1,ub2,ub3]
     refine done_U (by kernel_rfl) ?_ _
     refine NoPanic.normal ?_
     go_wp2_with fail
     go_roundw
     case measure=>simp [intOf];omega
     case rel=>exact ⟨j+1,by omega,by go_num,Lh (HF.out _ (.inr (by rw [<- HW8.out];rfl)))⟩
  ·have hjl:j=vs.length:=by omega
   subst hjl
   obtain ⟨⟨T1,T',hTT,v0,r,b1,b2,b3,b4,b5⟩,hqr,hbr⟩:=HR.out
   rw [List.take_length] at b5
   obtain ⟨x,hx,hsl⟩:=b5.sl (G:=fun k=>k<wr.heap.size) (fun k hk=>(b4 k hk.1).2) (fun k hk=>(b4 k (b3 k hk).1).2) (by rw [Tr.widths];simp)
   rw [List.length_map,List.length_map] at hx
   subst hx
   have HO1:=Lh (fun (k:Int) (W:World) (hk:I64 k) (hW:Below wr.heap.size wr W)=>one1_any k vs x W (w.heap.size+1) hk ((hW.block _ (gS b1).1).trans b1) (hsl.later hW hW.size) HV.out.2)
   have HBR:=Lh (aI hbr hqr)
   have hnl:decide ((vs.length:Int)<(vs.length:Int))=false:=by simp
   clear hTT b1 b2 b3 b4 b5 hqr hbr hsl HR HFF hj hlt
   go_wp2_with fail
   refine (HO1.out 1 wr (i64_small (by decide) (by decide)) (Below.refl _ _)).mono ?_
   rintro e w2 ⟨u1,rfl,hs1,hb1⟩
   have H1:=Lh (aI hs1 hb1)
   clear hs1 hb1
   go_wp2_with fail
   refine (HO1.out 2 w2 (i64_small (by decide) (by decide)) H1.out.2).mono ?_
   rintro e w3 ⟨u2,rfl,hs2,hb2⟩
   have hb3:=H1.out.2.trans (hb2.mono H1.out.2.size)
   have q3:=(hb3.block _ (gS HBR.out.2).1).trans HBR.out.2
   have H2:=Lh (aI hs2 (aI hb2 (aI hb3 q3)))
   have x0:w3.cell? ⟨w.heap.size,0,none⟩=some (.int .i64 0):=cH q3 rfl
   have f0:w3.frozen? ⟨w.heap.size,0,none⟩=false:=fH q3
   have x1:w3.cell? ⟨w.heap.size,1,none⟩=some (.int .i64 0):=cH q3 rfl
   have f1:w3.frozen? ⟨w.heap.size,1,none⟩=false:=fH q3
   have x2:w3.cell? ⟨w.heap.size,2,none⟩=some (.int .i64 0):=cH q3 rfl
   have f2:w3.frozen? ⟨w.heap.size,2,none⟩=false:=fH q3
   have x3:w3.cell? ⟨w.heap.size,3,none⟩=some (.slice none 0 0):=cH q3 rfl
   have f3:w3.frozen? ⟨w.heap.size,3,none⟩=false:=fH q3
   have hl3:=(gS q3).1
   clear hs2 hb2 hb3 q3
   go_wp2_with fail
   have hq3:=put4_heap H2.out.2.2.2 (.int .i64 4) (.int .i64 0) (.int .i64 0) (.slice (some ⟨w3.heap.size+1,0,none⟩) 2 2)
   have hm3:=put4_mod w3 w.heap.size 0 (.int .i64 4) (.int .i64 0) (.int .i64 0) (.slice (some ⟨w3.heap.size+1,0,none⟩) 2 2)
   have hs3:(put4 w3 w.heap.size 0 (.int .i64 4) (.int .i64 0) (.int .i64 0) (.slice (some ⟨w3.heap.size+1,0,none⟩) 2 2)).heap.size=w3.heap.size:=by unfold put4;simp
   unfold put4 at hq3 hm3 hs3
   simp only [Nat.zero_add] at hq3 hm3 hs3
   generalize (((w3.setCell _ _).setCell _ _).setCell _ _).setCell _ _=WP at hq3 hm3 hs3 ⊢
   have kA1:((WP.alloc (.cells #[.int .i64 6,.int .i64 0,.int .i64 2,.slice u2.a vs.length u2.cap] 39)).alloc (.cells #[.int .i64 6,.int .i64 0,.int .i64 1,.slice u1.a vs.length u1.cap,.int .i64 3,.int .i64 0,.int .i64 0,.slice (some ⟨w3.heap.size,0,none⟩) 1 1] 39)).heap[w3.heap.size]?=some (.cells #[.int .i64 6,.int .i64 0,.int .i64 2,.slice u2.a vs.length u2.cap] 39 (0,0)):=by rw [heap_get,if_neg (by simp;omega),heap_get,if_pos hs3.symm]
   have kA2:((WP.alloc (.cells #[.int .i64 6,.int .i64 0,.int .i64 2,.slice u2.a vs.length u2.cap] 39)).alloc (.cells #[.int .i64 6,.int .i64 0,.int .i64 1,.slice u1.a vs.length u1.cap,.int .i64 3,.int .i64 0,.int .i64 0,.slice (some ⟨w3.heap.size,0,none⟩) 1 1] 39)).heap[w3.heap.size+1]?=some (.cells #[.int .i64 6,.int .i64 0,.int .i64 1,.slice u1.a vs.length u1.cap,.int .i64 3,.int .i64 0,.int .i64 0,.slice (some ⟨w3.heap.size,0,none⟩) 1 1] 39 (0,0)):=by rw [heap_get,if_pos (by simp;omega)]
   have hbF:Below WP.heap.size WP ((WP.alloc (.cells #[.int .i64 6,.int .i64 0,.int .i64 2,.slice u2.a vs.length u2.cap] 39)).alloc (.cells #[.int .i64 6,.int .i64 0,.int .i64 1,.slice u1.a vs.length u1.cap,.int .i64 3,.int .i64 0,.int .i64 0,.slice (some ⟨w3.heap.size,0,none⟩) 1 1] 39)):=((Below.refl _ _).alloc (Nat.le_refl _) _).alloc (by simp) _
   generalize (WP.alloc (.cells #[.int .i64 6,.int .i64 0,.int .i64 2,.slice u2.a vs.length u2.cap] 39)).alloc (.cells #[.int .i64 6,.int .i64 0,.int .i64 1,.slice u1.a vs.length u1.cap,.int .i64 3,.int .i64 0,.int .i64 0,.slice (some ⟨w3.heap.size,0,none⟩) 1 1] 39)=WF at kA1 kA2 hbF ⊢
   have hq4:=(hbF.block _ (gS hq3).1).trans hq3
   have y0:WF.cell? ⟨w.heap.size,0,none⟩=some (.int .i64 4):=cH hq4 rfl
   have y1:WF.cell? ⟨w.heap.size,1,none⟩=some (.int .i64 0):=cH hq4 rfl
   have y2:WF.cell? ⟨w.heap.size,2,none⟩=some (.int .i64 0):=cH hq4 rfl
   have y3:WF.cell? ⟨w.heap.size,3,none⟩=some (.slice (some ⟨w3.heap.size+1,0,none⟩) 2 2):=cH hq4 rfl
   have HY:=Lh (aI hm3 (aI hs3 (aI kA1 (aI kA2 hbF))))
   clear hq3 hm3 hs3 kA1 kA2 hbF hq4 x0 x1 x2 x3 f0 f1 f2 f3
   refine bodyPost_ret (v:=.agg #[.int .i64 4,.int .i64 0,.int .i64 0,.slice (some ⟨w3.heap.size+1,0,none⟩) 2 2]) (by simp [results,Tryz.results42,go_sem,y0,y1,y2,y3]) rfl ?_
   have z1:=HBR.out.1.size
   have z2:=H1.out.2.size
   have z3:=H2.out.2.1.size
   have z4:=HY.out.2.1
   have z5:=HY.out.2.2.2.2.size
   have z6:=(gS HY.out.2.2.2.1).1
   have hlr:=(gS HBR.out.2).1
   have hlm:(vs.map leafT).length=vs.length:=List.length_map ..
   have h3F:∀ k,wr.heap.size<=k->k<w3.heap.size->WF.heap[k]?=w3.heap[k]?:=fun k h1 h2=>(HY.out.2.2.2.2.block k (by omega)).trans (HY.out.1.block k h2 (by omega))
   have s1:SlIn WF (fun k=>w.heap.size<=k/\k<WF.heap.size) ((vs.map leafT).map Tr.toD) u1:=(H1.out.1.agree (fun k hk=>(h3F k hk.1 (by have:=hk.2;omega)).trans (H2.out.2.1.block k hk.2))).mono (fun k hk=>⟨by omega,by omega⟩)
   have s2:SlIn WF (fun k=>w.heap.size<=k/\k<WF.heap.size) ((vs.map leafT).map Tr.toD) u2:=(H2.out.1.agree (fun k hk=>h3F k (by have:=hk.1;omega) hk.2)).mono (fun k hk=>⟨by omega,by omega⟩)
   have d1:=Tr.close (kind:=6) (v:=0) (k:=1) (i64_small (by decide) (by decide)) (i64_small (by decide) (by decide)) (i64_small (by decide) (by decide)) s1
   have d2:=Tr.close (kind:=6) (v:=0) (k:=2) (i64_small (by decide) (by decide)) (i64_small (by decide) (by decide)) (i64_small (by decide) (by decide)) s2
   rw [hlm] at d1 d2
   have s3:SlIn WF (fun k=>w.heap.size<=k/\k<WF.heap.size) ([Tr.mk 6 0 2 (vs.map leafT)].map Tr.toD) ⟨some ⟨w3.heap.size,0,none⟩,w3.heap.size,0,1⟩:=SlIn.lit HY.out.2.2.1 (DsAt.oneT d2) ⟨by omega,by omega⟩ (by simp) (by unfold maxLen;omega)
   have d3:=Tr.close (kind:=3) (v:=0) (k:=0) (i64_small (by decide) (by decide)) (i64_small (by decide) (by decide)) (i64_small (by decide) (by decide)) s3
   have s4:SlIn WF (fun k=>w.heap.size<=k/\k<WF.heap.size) ([Tr.mk 6 0 1 (vs.map leafT),Tr.mk 3 0 0 [Tr.mk 6 0 2 (vs.map leafT)]].map Tr.toD) ⟨some ⟨w3.heap.size+1,0,none⟩,w3.heap.size+1,0,2⟩:=SlIn.lit HY.out.2.2.2.1 (by
    simp only [List.map_cons,List.map_nil]
    rw [DsAt]
    exact ⟨_,_,rfl,d1,DsAt.oneT d3⟩) ⟨by omega,by omega⟩ (by simp) (by unfold maxLen;omega)
   have d4:=Tr.close (kind:=4) (v:=0) (k:=0) (i64_small (by decide) (by decide)) (i64_small (by decide) (by decide)) (i64_small (by decide) (by decide)) s4
   exact ⟨_,rfl,d4,(((HBR.out.1.trans (H2.out.2.2.1.mono HBR.out.1.size)).trans (HY.out.1.below (by omega) (fun k hk=>by omega))).trans (HY.out.2.2.2.2.mono (by omega)))⟩
end Go.Proofs.YtjjkfgjnadaheaaGreatDoor
