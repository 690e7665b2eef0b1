/- Joined texts: GOne, GFrame, GLive0, GVal, GSame. -/
import Derived.Test.YtjjkfgjnadaheaaGreatDoorB33
import Derived.Test.YtjjkfgjnadaheaaGreatDoorB07
import Derived.Test.YtjjkfgjnadaheaaGreatDoorB34
import Derived.Test.YtjjkfgjnadaheaaGreatDoorB25
import Derived.Test.YtjjkfgjnadaheaaGreatDoorB35
import Derived.Test.YtjjkfgjnadaheaaGreatDoorB13
set_option maxHeartbeats 4000000
set_option maxRecDepth 100000
set_option linter.unusedVariables false
set_option linter.unusedSimpArgs false
/- ground.one: exactly one of some variables. (written by tools/gen_gone.py) -/
namespace Go.Chalk
open Go.RowKit
def leafT (v:Int):Tr:=.mk 2 v 0 []
theorem leaf_iff {W:World} {F:Nat->Prop} {v:Int} {cs:List Value}:DAt W F (leafT v).toD cs->∀ (W':World) (G:Nat->Prop),DAt W' G (leafT v).toD cs:=fun h W' G=>by
 unfold leafT at h ⊢
 obtain ⟨a,b,o,cap,rfl,_,h1,h2,h3,h4,h5,_⟩:=Tr.open h
 have ha:cap<=maxLen:=h5
 rw [Tr.toD] at h
 simp only [DAt,DsAt] at h
 obtain ⟨_,_,e1,⟨rfl,_⟩,_,_,e2,⟨rfl,_⟩,_,_,e3,⟨rfl,_⟩,_,_,e4,⟨a',b',o',cap',rfl,hs,_,_,_⟩,rfl⟩:=h
 have:=Tr.close (W:=W') (F:=G) (u:=⟨a,b,o,cap⟩) (ts:=[]) h1 h2 h3 ⟨fun h=>by simp at h,Nat.zero_le _,ha,by rw [List.map_nil,RowAt];trivial⟩
 exact this
theorem leaves_iff {W:World} {F:Nat->Prop}:∀ (vs:List Int) (cs:List Value),DsAt W F ((vs.map leafT).map Tr.toD) cs->∀ (W':World) (G:Nat->Prop),DsAt W' G ((vs.map leafT).map Tr.toD) cs
 | [],cs,h,W',G=>by rw [List.map_nil,List.map_nil,DsAt] at h ⊢;exact h
 | v :: r,cs,h,W',G=>by
  rw [List.map_cons,List.map_cons,DsAt] at h ⊢
  obtain ⟨c1,c2,rfl,h1,h2⟩:=h
  exact ⟨c1,c2,rfl,leaf_iff h1 W' G,leaves_iff r c2 h2 W' G⟩
theorem leaf_at {W:World} {F:Nat->Prop} {v:Int} (hv:I64 v):DAt W F (leafT v).toD [.int .i64 2,.int .i64 v,.int .i64 0,.slice none 0 0]:=Tr.close (u:=⟨none,0,0,0⟩) (i64_small (by decide) (by decide)) hv (i64_small (by decide) (by decide)) (SlIn.nil (Nat.zero_le _) _ _ _)
end Go.Chalk
namespace Go.Proofs.YtjjkfgjnadaheaaGreatDoor
open Go.RowKit Go.Chalk
attribute [local go_sem] Oper.semAt_some
theorem clone_Tre (l:List Tr) (x:SlA) (w:World) (hx:SlIn w (·<w.heap.size) (l.map Tr.toD) x) (hmax:l.length<=2000000) :
  Calls Tryz.prog 92 #[x.val l.length] w fun e w'=>∃ v r,e=.returned v/\Chalk.Own w' (fun k=>k<w.heap.size) 39 4 v r (l.map Tr.toD)/\(∀ k,r=some k->w.heap.size<=k)/\Below w.heap.size w w':=by
 obtain ⟨i0,hi,hz0,hz1,hz2⟩:=info_parts infoTree
 have hq:=fun (w:World) (a:Option Addr) (n c:Nat)=>Lib.run_eql_slice_nil (P:=Tryz.prog) w 37 39 a n c 0 0 Tryz.underlying37
 have hlen:(l.map Tr.toD).length=l.length:=by simp
 by_cases hn:x.a=none
 ·have hl:l=[]:=by
   cases l with
   | nil=>rfl
   | cons y r=>have:=(hx.at_ (by simp)).1;rw [hn] at this;cases this
  subst hl
  obtain ⟨a,b,o,cap⟩:=x
  simp only at hn
  subst hn
  clear hx hi hz0 hz1 hz2
  go_enter Tryz.func92,Tryz.ntmps92
  go_wp2_with fail
  go_ret
  exact ⟨_,none,rfl,Chalk.Own.nil _ _ _ _ (fun _ h=>h),fun _ h=>(by cases h),Below.refl _ _⟩
 ·obtain ⟨a,b,o,cap⟩:=x
  obtain ⟨ad,rfl⟩:∃ ad,a=some ad:=Option.ne_none_iff_exists'.1 hn
  have hba:Below w.heap.size w (w.alloc (.cells #[] 39)):=(Below.refl _ _).alloc (Nat.le_refl _) _
  have hsrc:SlIn (w.alloc (.cells #[] 39)) (·<w.heap.size) (l.map Tr.toD) ⟨some ad,b,o,cap⟩:=hx.later hba (Nat.le_refl _)
  have hown:Chalk.Own (w.alloc (.cells #[] 39)) (·<w.heap.size) 39 4 (.slice (some ⟨w.heap.size,0,none⟩) 0 0) (some w.heap.size) []:=Chalk.Own.lit (w:=w) (n:=0) (cs:=[]) rfl (by unfold maxLen;omega) rfl (by rw [DsAt]) (fun _ h=>h)
  have HS:=Lh hsrc.d
  have HO:=Lh hown
  have HB:=Lh hba
  rw [hlen] at HS
  have HL:=Lh hlen
  clear hx hsrc hown hba hn hlen
  go_enter Tryz.func92,Tryz.ntmps92
  go_wp2_with (at_builtin;go_must (refine wpList_append_src _ (by rfl) _ _ _ rfl 39 i0 _ 4 48 Tryz.underlying37 hi hz0 hz1 hz2 rfl (by omega) (.slice (some ⟨w.heap.size,0,none⟩) 0 0) (.slice (some ad) l.length cap) (·<w.heap.size) (some w.heap.size) [] (l.map Tr.toD) rfl rfl HO.out HS.out (by rw [Tr.widths,HL.out]) (by rw [HL.out];simp;unfold maxLen;omega) (by rw [HL.out];simp;omega) ?_);intro oa ocap orow w5 hown hmod hat;have HOW:=Lh hown;have HM:=Lh hmod;clear hown hmod;rw [HL.out];simp only [List.length_nil,Nat.zero_add])
  go_ret
  have hbb:Below w.heap.size w w5:=HB.out.trans (HM.out.below HB.out.size (fun k hk=>by simp at hk;omega))
  have h1:=HOW.out
  rw [List.nil_append,List.length_nil,Nat.zero_add,HL.out] at h1
  refine ⟨_,orow,rfl,h1,fun k hk=>?_,hbb⟩
  rcases hat with h | h
  ·rw [h] at hk;simp at hk;omega
  ·rw [h] at hk;simp at hk;omega

theorem one1_any (k:Int) (vs:List Int) (u:SlA) (w:World) (b:Nat) (hk:I64 k) (hb:w.heap[b]?=some (.cells #[.slice u.a vs.length u.cap] 37 (0,0))) (hu:SlIn w (·<w.heap.size) ((vs.map leafT).map Tr.toD) u) (hmax:vs.length<=2000000) :
  Calls Tryz.prog 91 #[.int .i64 k,.pointer (some ⟨b,0,none⟩)] w fun e w'=>∃ u':SlA,e=.returned (.agg #[.int .i64 6,.int .i64 0,.int .i64 k,.slice u'.a vs.length u'.cap])/\SlIn w' (fun j=>w.heap.size<=j/\j<w'.heap.size) ((vs.map leafT).map Tr.toD) u'/\Below w.heap.size w w':=by
 have hb0:Below w.heap.size w (w.alloc (.cells #[.int .i64 0,.int .i64 0,.int .i64 0,.slice none 0 0] 39)):=(Below.refl _ _).alloc (Nat.le_refl _) _
 have hc:=clone_Tre (vs.map leafT) u (w.alloc (.cells #[.int .i64 0,.int .i64 0,.int .i64 0,.slice none 0 0] 39)) (hu.later hb0 hb0.size) (by simpa using hmax)
 rw [List.length_map] at hc
 have HC:=Lh hc
 have c0:w.cell? ⟨b,0,none⟩=some (.slice u.a vs.length u.cap):=cH hb rfl
 have hbl:=(gS hb).1
 have HB:=Lh hb0
 have hq0:(w.alloc (.cells #[.int .i64 0,.int .i64 0,.int .i64 0,.slice none 0 0] 39)).heap[w.heap.size]?=some (.cells #[.int .i64 0,.int .i64 0,.int .i64 0,.slice none 0 0] 39 (0,0)):=by rw [heap_get,if_pos rfl]
 have HQ:=Lh hq0
 clear hc hb hu hb0 hmax hq0
 go_enter Tryz.func91,Tryz.ntmps91
 go_wp2_with fail
 refine HC.out.mono ?_
 rintro e w1 ⟨v,r,rfl,hown,hr,hb1⟩
 have hq1:=(hb1.block w.heap.size (by simp)).trans HQ.out
 have x0:w1.cell? ⟨w.heap.size,0,none⟩=some (.int .i64 0):=cH hq1 rfl
 have f0:w1.frozen? ⟨w.heap.size,0,none⟩=false:=fH hq1
 have x1:w1.cell? ⟨w.heap.size,1,none⟩=some (.int .i64 0):=cH hq1 rfl
 have f1:w1.frozen? ⟨w.heap.size,1,none⟩=false:=fH hq1
 have x2:w1.cell? ⟨w.heap.size,2,none⟩=some (.int .i64 0):=cH hq1 rfl
 have f2:w1.frozen? ⟨w.heap.size,2,none⟩=false:=fH hq1
 have x3:w1.cell? ⟨w.heap.size,3,none⟩=some (.slice none 0 0):=cH hq1 rfl
 have f3:w1.frozen? ⟨w.heap.size,3,none⟩=false:=fH hq1
 have hl1:=(gS hq1).1
 obtain ⟨cs,k1,k2⟩:=hown.cells
 have hown':Chalk.Own w1 (fun _=>False) 39 4 v r ((vs.map leafT).map Tr.toD):=⟨⟨cs,k1,leaves_iff vs cs k2 _ _⟩,hown.row,fun _ _ h=>h,fun _ h=>h.elim⟩
 obtain ⟨u',hu',hs'⟩:=hown'.sl (G:=fun j=>w.heap.size+1<=j/\j<w1.heap.size) (fun _ h=>h.elim) (fun j hj=>⟨by have:=hr j hj;simp at this;omega,hown'.row_lt hj⟩) (by rw [Tr.widths];simp)
 rw [List.length_map,List.length_map] at hu'
 subst hu'
 have HF:=Lh (aI hs' (aI (HB.out.trans (hb1.mono HB.out.size)) hq1))
 clear hown hown' hr hb1 k1 k2 hs' hq1
 go_wp2_with fail
 have hq3:=put4_heap HF.out.2.2 (.int .i64 6) (.int .i64 0) (.int .i64 k) (.slice u'.a vs.length u'.cap)
 have hm3:=put4_mod w1 w.heap.size 0 (.int .i64 6) (.int .i64 0) (.int .i64 k) (.slice u'.a vs.length u'.cap)
 unfold put4 at hq3 hm3
 simp only [Nat.zero_add] at hq3 hm3
 generalize (((w1.setCell _ _).setCell _ _).setCell _ _).setCell _ _=W3 at hq3 hm3 ⊢
 have HY:=Lh (aI hq3 hm3)
 have y0:W3.cell? ⟨w.heap.size,0,none⟩=some (.int .i64 6):=cH hq3 rfl
 have y1:W3.cell? ⟨w.heap.size,1,none⟩=some (.int .i64 0):=cH hq3 rfl
 have y2:W3.cell? ⟨w.heap.size,2,none⟩=some (.int .i64 k):=cH hq3 rfl
 have y3:W3.cell? ⟨w.heap.size,3,none⟩=some (.slice u'.a vs.length u'.cap):=cH hq3 rfl
 clear hq3 hm3
 refine bodyPost_ret (v:=.agg #[.int .i64 6,.int .i64 0,.int .i64 k,.slice u'.a vs.length u'.cap]) (by simp [results,Tryz.results91,go_sem,y0,y1,y2,y3]) rfl ?_
 have hz:=HY.out.2.size
 refine ⟨u',rfl,(HF.out.1.agree (HY.out.2.agree (fun j hj=>⟨hj.2,by have:=hj.1;omega⟩))).mono (fun j hj=>⟨by omega,by omega⟩),HF.out.2.1.trans (HY.out.2.below HF.out.2.1.size (fun j hj=>by omega))⟩

def OneRel (w:World) (vs:List Int) (j:Nat) (W:World):Prop:=(∃ T1,BoxMb W w.heap.size (w.heap.size+1) 37 39 (((vs.take j).map leafT).map Tr.toD) T1)/\W.heap[w.heap.size]?=some (.cells #[.int .i64 0,.int .i64 0,.int .i64 0,.slice none 0 0] 39 (0,0))/\Below w.heap.size w W
theorem one_any (F:Nat) (lb:Array Value) (vs:List Int) (w:World) (hFe:∀ args w,(callFunc F args).run Tryz.prog w=.ok (.enter F args) w) (hv:∀ v∈vs,I64 v) (hmax:vs.length<=2000000)
  (hF:∀ (j:Nat) (v:Int) (W:World),vs[j]?=some v->Below w.heap.size w W->Calls Tryz.prog F (#[.int .i64 j]++lb) W fun e W'=>e=.returned (.int .i64 v)/\Below W.heap.size W W') :
  Calls Tryz.prog 42 #[.int .i64 vs.length,.func (.func F) #[] lb] w fun e w'=>∃ cs,e=.returned (.agg cs)/\DAt w' (fun k=>w.heap.size<=k/\k<w'.heap.size) (oneT vs).toD cs.toList/\Below w.heap.size w w':=by
 have HFF:=Lh hF
 have HV:=Lh (aI hv hmax)
 have HCF:=Lh hFe
 obtain ⟨W0,hW0⟩:∃ W0,W0=(w.alloc (.cells #[.int .i64 0,.int .i64 0,.int .i64 0,.slice none 0 0] 39)).alloc (.cells #[.slice none 0 0] 37):=⟨_,rfl⟩
 have hb0:Below w.heap.size w W0:=by rw [hW0];exact ((Below.refl _ _).alloc (Nat.le_refl _) _).alloc (by simp) _
 have hz0:W0.heap.size=w.heap.size+2:=by rw [hW0];simp
 have hq0:W0.heap[w.heap.size]?=some (.cells #[.int .i64 0,.int .i64 0,.int .i64 0,.slice none 0 0] 39 (0,0)):=by rw [hW0,heap_get,if_neg (by simp),heap_get,if_pos rfl]
 have hq1:W0.heap[w.heap.size+1]?=some (.cells #[.slice none 0 0] 37 (0,0)):=by rw [hW0,heap_get,if_pos (by simp)]
 have HB:=Lh (aI hb0 (aI hq0 (aI hq1 hz0)))
 have HW0:=Lh hW0
 have hmf:∀ (fn:Fn) (first cap:Array Value) (w:World),(Instr.makeFunc fn first cap).run Tryz.prog w=.ok (.func fn first cap) w:=fun _ _ _ _=>rfl
 clear hF hb0 hq0 hq1 hW0 hv hz0
 obtain ⟨i0,hi0,hz0',hz1',hz2'⟩:=info_parts infoTree
 go_enter Tryz.func42,Tryz.ntmps42
 go_wp2_with fail
 rw [<- HW0.out]
 go_loopw [9] (fun i wr=>∃ j:Nat,j<=vs.length/\i=.int .i64 j/\Hid (OneRel w vs j wr)) (fun i _=>vs.length - (intOf i).toNat)
 case atStart =>
  refine ⟨0,Nat.zero_le _,rfl,Lh ⟨⟨fun k=>k=w.heap.size+1∨k=w.heap.size,fun k=>k=w.heap.size+1,fun k=>Iff.rfl,.slice none 0 0,none,HB.out.2.2.1,rfl,(fun _ h=>by cases h),(fun k hk=>by have:=HB.out.2.2.2;omega),Chalk.Own.nil _ _ _ _ (fun k hk=>absurd hk.1 hk.2.1)⟩,HB.out.2.1,HB.out.1⟩⟩
 case round =>
  obtain ⟨j,hj,rfl,HR⟩:=hrel
  by_cases hlt:j<vs.length
  ·obtain ⟨⟨T1,T',hTT,v0,r,b1,b2,b3,b4,b5⟩,hqr,hbr⟩:=HR.out
   have hxn:(((vs.take j).map leafT).map Tr.toD).length=j:=by simp;omega
   obtain ⟨oa,ocap,hv0⟩:=b5.form
   subst hv0
   rw [hxn] at b1 b5
   obtain ⟨v,hvj⟩:∃ v,vs[j]?=some v:=⟨vs[j],List.getElem?_eq_getElem hlt⟩
   have hvI:I64 v:=HV.out.1 v (List.mem_of_getElem? hvj)
   have htk:((vs.take (j+1)).map leafT).map Tr.toD=((vs.take j).map leafT).map Tr.toD++[(leafT v).toD]:=by
    rw [List.take_add_one,hvj];simp
   have HCA:=Lh (fun (W:World) (hW:Below w.heap.size w W)=>HFF.out j v W hvj hW)
   have HKS:Hid (∀ w',Below wr.heap.size wr w'->w'.cell? ⟨w.heap.size+1,0,none⟩=some (.slice oa j ocap)):=Lh (fun w' hW=>cH ((hW.block _ (gS b1).1).trans b1) rfl)
   have HOW:Hid (∀ wc,Below wr.heap.size wr wc->Chalk.Own wc (fun k=>T' k/\k ≠ w.heap.size+1/\r ≠ some k) 39 4 (.slice oa j ocap) r (((vs.take j).map leafT).map Tr.toD)):=Lh (fun wc hwc=>b5.below hwc)
   have HH7:Hid (∀ wc w7,Below wr.heap.size wr wc->Chalk.Mod (fun k=>r=some k) wc w7->w7.heap[w.heap.size+1]?=some (.cells #[.slice oa j ocap] 37 (0,0))):=Lh (fun wc w7 h1 h2=>heap_kept ((h1.block _ (gS b1).1).trans b1) h2 (fun h=>(b3 _ h).2 rfl))
   have HGH:Hid (∀ (wc:World) (g':Nat),Below wr.heap.size wr wc->(r=some g'∨g'=wc.heap.size)->g' ≠ w.heap.size+1):=Lh (fun wc g' h1 h2=>by
    rcases h2 with h | h
    ·exact (b3 _ h).2
    ·have:=h1.size;have:=(gS b1).1;omega)
   have HFN:Hid (∀ (wc w7 wf:World) (g' cap:Nat) (cs:List Value) (z0 z1 z2 z3:Value),Below wr.heap.size wr wc ->
     DsAt wc (fun k=>T' k/\k ≠ w.heap.size+1/\r ≠ some k) (((vs.take j).map leafT).map Tr.toD) cs->w7.ownsRow 0 39 4 (.slice (some ⟨g',0,none⟩) (j+1) cap) (j+1) (cs++[z0,z1,z2,z3])->Chalk.Mod (fun k=>r=some k) wc w7->(r=some g'∨g'=wc.heap.size)->g'<w7.heap.size ->
     (wf=(put4 w7 g' (j*4) (.int .i64 2) (.int .i64 v) (.int .i64 0) (.slice none 0 0)).setCell ⟨w.heap.size+1,0,none⟩ (.slice (some ⟨g',0,none⟩) (j+1) cap)∨wf=put4 (w7.setCell ⟨w.heap.size+1,0,none⟩ (.slice (some ⟨g',0,none⟩) (j+1) cap)) g' (j*4) (.int .i64 2) (.int .i64 v) (.int .i64 0) (.slice none 0 0)) ->
     OneRel w vs (j+1) wf):=Lh (fun wc w7 wf g' cap cs z0 z1 z2 z3 h1 h5 h6 h7 h8 h9 h10=>by
    obtain ⟨⟨T2,k1,k2,k3⟩,k4⟩:=each_end (mb:=w.heap.size) hTT (by omega) b1 b2 b3 b4 b5 h5 (Chalk.Mod.of_below (S:=fun k=>k=w.heap.size) h1) (leaf_at hvI) h6 h7 h8 h9 hxn h10
    refine ⟨⟨T2,by rw [htk];exact k3⟩,k4.trans ((h1.block _ (gS hqr).1).trans hqr),hbr.trans (k2.below hbr.size (fun k hk=>?_))⟩
    rcases (hTT k).1 hk with h | h
    ·have:=(b4 k h).1;omega
    ·omega)
   have HXN:=Lh hxn
   have HBR:=Lh (aI hbr (gS hqr).1)
   have hxl:=(gS b1).1
   have hjm:j<2000000:=by have:=HV.out.2;omega
   have hcf:=HCF.out
   clear hTT b1 b2 b3 b4 b5 hqr hbr hxn htk hvI hvj HR
   go_wp2_with fail
   refine wp_region_noPanic ?_
   refine wp_region_U 7 (S:=fun w'=>w'.cell? ⟨w.heap.size+1,0,none⟩=some (.slice oa j ocap)) (by kernel_rfl) (HKS.out _ (Below.refl _ _).drew) (fun hHeld=>?_)
   refine tkU (i:=0) rfl hHeld ?_
   try simp only [Act.put,ub1,ub2,ub3]
   refine tkU (i:=1) rfl hHeld ?_
   try simp only [Act.put,ub1,ub2,ub3]
   refine tkU (i:=2) rfl hHeld ?_
   try simp only [Act.put,ub1,ub2,ub3]
   refine tkU (i:=5) rfl hHeld ?_
   try simp only [Act.put,ub1,ub2,ub3]
   refine ready_U (rs:=[3,6]) (by kernel_rfl) (by simp) ?_
   refine cons_U rfl (fun K hK=>?_) (cons_U rfl (fun K hK=>?_) nil_U)
   ·go_simp
    (with_reducible refine (HCA.out wr.drew (HBR.out.1.trans ((Below.refl wr.heap.size wr).drew.mono HBR.out.1.size))).mono ?_)
    rintro e w2 ⟨rfl,hb2⟩
    have K2:=Lh (Below.trans (Below.refl wr.heap.size wr).drew (hb2.mono (Nat.le_refl _)))
    clear hb2
    go_simp
    refine hK.out _ _ ?_ (fun hHeld2=>?_)
    ·exact HKS.out _ K2.out
    clear hK K hHeld
    have hHeld:=hHeld2
    clear hHeld2
    try simp only [Act.put,ub1,ub2,ub3]
    refine tkU (i:=4) rfl hHeld ?_
    try simp only [Act.put,ub1,ub2,ub3]
    refine ready_U (rs:=[6]) (by kernel_rfl) (by simp) ?_
    refine cons_U rfl (fun K hK=>?_) nil_U
    go_simp
    refine hK.out _ _ ?_ (fun hHeld2=>?_)
    ·exact HKS.out _ (K2.out.alloc K2.out.size _)
    clear hK K hHeld
    have hHeld:=hHeld2
    clear hHeld2
    try simp only [Act.put,ub1,ub2,ub3]
    refine ready_U (rs:=[7]) (by kernel_rfl) (by simp) ?_
    refine cons_V rfl (by kernel_rfl) (fun K hK=>?_) nil_U
    refine step_append_zero (W0:=(w2.alloc (.cells #[.int .i64 0,.int .i64 0,.int .i64 0,.slice none 0 0] 39))) (by rfl) _ _ 37 (by rfl) 39 i0 _ 48 Tryz.underlying37 hi0 hz0' hz1' hz2' rfl oa ocap j _ r w2.heap.size (.int .i64 0) (.int .i64 0) (.int .i64 0) (.slice none 0 0) 39 (by rfl) (by rfl) (HOW.out _ (K2.out.alloc K2.out.size _)) HXN.out (by rw [heap_get,if_pos rfl]) (by simp [Value.oneCell']) (by unfold maxLen;omega) (by omega) ?_
    intro g' cap cs w7 q1 q2 q3 q4 q5
    obtain ⟨⟨x0',x1',x2',x3'⟩,xf,xl,xc⟩:=row_cells q2
    have hgH:=HGH.out _ g' (K2.out.alloc K2.out.size _) q4
    have hb7:=HH7.out _ _ (K2.out.alloc K2.out.size _) q3
    have xH:w7.cell? ⟨w.heap.size+1,0,none⟩=some (.slice oa j ocap):=cH hb7 rfl
    have xHf:w7.frozen? ⟨w.heap.size+1,0,none⟩=false:=fH hb7
    have xHl:=(gS hb7).1
    have hb7:=Lh hb7
    have HF:=Lh (fun wf h=>HFN.out (w2.alloc (.cells #[.int .i64 0,.int .i64 0,.int .i64 0,.slice none 0 0] 39)) w7 wf g' cap cs _ _ _ _ (K2.out.alloc K2.out.size _) q1 q2 q3 q4 q5 h)
    have xf0:=xf (j*4)
    have xf1:=xf (j*4+1)
    have xf2:=xf (j*4+2)
    have xf3:=xf (j*4+3)
    have hii:(j:Int)<(j:Int)+1:=by omega
    clear q1 q2 q3 q4 xf
    refine hK.out _ _ ?_
    clear hK K
    try simp only [Act.put,ub1,ub2,ub3]
    refine take_V (i:=8) (v:=?_) rfl (by kernel_rfl) (by kernel_rfl) (by kernel_rfl) (by kernel_rfl) (fun _ _ _ h=>h) (by rfl) ?_ ?_
    rotate_left
    ·intro w;go_simp;all_goals (with_reducible rfl)
    try simp only [Act.put,ub1,ub2,ub3]
    refine ready_U (rs:=[9,10]) (by kernel_rfl) (by simp) ?_
    refine cons_V rfl (by kernel_rfl) (fun K hK=>?_) (cons_V rfl (by kernel_rfl) (fun K hK=>?_) nil_U)
    ·go_simp
     refine hK.out _ _ ?_
     clear hK K
     try simp only [Act.put,ub1,ub2,ub3]
     generalize hw8:(((w7.setCell _ _).setCell _ _).setCell _ _).setCell _ _=w8
     have hm8:Chalk.Mod (fun k=>k=g') w7 w8:=by rw [<- hw8];exact put4_mod _ _ _ _ _ _ _
     have yb:=hm8.block _ xHl (Ne.symm hgH)
     have yH:w8.cell? ⟨w.heap.size+1,0,none⟩=some (.slice oa j ocap):=(World.cell?_of_block yb).trans xH
     have yHf:w8.frozen? ⟨w.heap.size+1,0,none⟩=false:=fH (yb.trans hb7.out)
     have HW8:=Lh hw8
     clear hw8 hm8 yb
     refine ready_U (rs:=[10]) (by kernel_rfl) (by simp) ?_
     refine cons_V rfl (by kernel_rfl) (fun K hK=>?_) nil_U
     go_simp
     refine hK.out _ _ ?_
     clear hK K
     try simp only [Act.put,ub1,ub2,ub3]
     refine done_U (by kernel_rfl) ?_ _
     refine NoPanic.normal ?_
     go_wp2_with fail
     go_roundw
     case measure=>simp [intOf];omega
     case rel=>exact ⟨j+1,by omega,by go_num,Lh (HF.out _ (.inl (by rw [<- HW8.out];rfl)))⟩
    ·go_simp
     refine hK.out _ _ ?_
     clear hK K
     try simp only [Act.put,ub1,ub2,ub3]
     generalize hw8:w7.setCell _ _=w8
     have hm8:Chalk.Mod (fun k=>k=w.heap.size+1) w7 w8:=by rw [<- hw8];exact (Chalk.Mod.refl (fun k=>k=w.heap.size+1) w7).setCell (p:=⟨w.heap.size+1,0,none⟩) (fun _=>rfl) _
     have yb:=hm8.block g' xl hgH
     have y0:=(World.cell?_of_block (a:=⟨g',j*4,none⟩) yb).trans x0'
     have y1':=(World.cell?_of_block (a:=⟨g',j*4+1,none⟩) yb).trans x1'
     have y2:=(World.cell?_of_block (a:=⟨g',j*4+2,none⟩) yb).trans x2'
     have y3:=(World.cell?_of_block (a:=⟨g',j*4+3,none⟩) yb).trans x3'
     have yf0:=(World.frozen?_of_block (a:=⟨g',j*4,none⟩) yb).trans xf0
     have yf1:=(World.frozen?_of_block (a:=⟨g',j*4+1,none⟩) yb).trans xf1
     have yf2:=(World.frozen?_of_block (a:=⟨g',j*4+2,none⟩) yb).trans xf2
     have yf3:=(World.frozen?_of_block (a:=⟨g',j*4+3,none⟩) yb).trans xf3
     have HW8:=Lh hw8
     clear hw8 hm8 yb
     refine ready_U (rs:=[9]) (by kernel_rfl) (by simp) ?_
     refine cons_V rfl (by kernel_rfl) (fun K hK=>?_) nil_U
     go_simp
     refine hK.out _ _ ?_
     clear hK K
     try simp only [Act.put,ub1,ub2,ub3]
     refine done_U (by kernel_rfl) ?_ _
     refine NoPanic.normal ?_
     go_wp2_with fail
     go_roundw
     case measure=>simp [intOf];omega
     case rel=>exact ⟨j+1,by omega,by go_num,Lh (HF.out _ (.inr (by rw [<- HW8.out];rfl)))⟩
   ·go_simp
    refine hK.out _ _ ?_ (fun hHeld2=>?_)
    ·exact HKS.out _ (((Below.refl wr.heap.size wr).alloc (Nat.le_refl _) _).drew)
    clear hK K hHeld
    have hHeld:=hHeld2
    clear hHeld2
    try simp only [Act.put,ub1,ub2,ub3]
    refine ready_U (rs:=[3]) (by kernel_rfl) (by simp) ?_
    refine cons_U rfl (fun K hK=>?_) nil_U
    go_simp
    (with_reducible refine (HCA.out (wr.alloc (.cells #[.int .i64 0,.int .i64 0,.int .i64 0,.slice none 0 0] 39)).drew (HBR.out.1.trans (((Below.refl wr.heap.size wr).alloc (Nat.le_refl _) _).drew.mono HBR.out.1.size))).mono ?_)
    rintro e w2 ⟨rfl,hb2⟩
    have HZ2:Hid (w2.heap[wr.heap.size]?=some (.cells #[.int .i64 0,.int .i64 0,.int .i64 0,.slice none 0 0] 39 (0,0))):=Lh ((hb2.block _ (by simp)).trans (by show (wr.alloc _).heap[wr.heap.size]?=_;rw [heap_get,if_pos rfl]))
    have K2:=Lh (Below.trans ((Below.refl wr.heap.size wr).alloc (Nat.le_refl _) _).drew (hb2.mono (by simp)))
    clear hb2
    go_simp
    refine hK.out _ _ ?_ (fun hHeld2=>?_)
    ·exact HKS.out _ K2.out
    clear hK K hHeld
    have hHeld:=hHeld2
    clear hHeld2
    try simp only [Act.put,ub1,ub2,ub3]
    refine tkU (i:=4) rfl hHeld ?_
    try simp only [Act.put,ub1,ub2,ub3]
    refine ready_U (rs:=[7]) (by kernel_rfl) (by simp) ?_
    refine cons_V rfl (by kernel_rfl) (fun K hK=>?_) nil_U
    refine step_append_zero (W0:=w2) (by rfl) _ _ 37 (by rfl) 39 i0 _ 48 Tryz.underlying37 hi0 hz0' hz1' hz2' rfl oa ocap j _ r wr.heap.size (.int .i64 0) (.int .i64 0) (.int .i64 0) (.slice none 0 0) 39 (by rfl) (by rfl) (HOW.out _ (K2.out)) HXN.out (HZ2.out) (by simp [Value.oneCell']) (by unfold maxLen;omega) (by omega) ?_
    intro g' cap cs w7 q1 q2 q3 q4 q5
    obtain ⟨⟨x0',x1',x2',x3'⟩,xf,xl,xc⟩:=row_cells q2
    have hgH:=HGH.out _ g' (K2.out) q4
    have hb7:=HH7.out _ _ (K2.out) q3
    have xH:w7.cell? ⟨w.heap.size+1,0,none⟩=some (.slice oa j ocap):=cH hb7 rfl
    have xHf:w7.frozen? ⟨w.heap.size+1,0,none⟩=false:=fH hb7
    have xHl:=(gS hb7).1
    have hb7:=Lh hb7
    have HF:=Lh (fun wf h=>HFN.out w2 w7 wf g' cap cs _ _ _ _ (K2.out) q1 q2 q3 q4 q5 h)
    have xf0:=xf (j*4)
    have xf1:=xf (j*4+1)
    have xf2:=xf (j*4+2)
    have xf3:=xf (j*4+3)
    have hii:(j:Int)<(j:Int)+1:=by omega
    clear q1 q2 q3 q4 xf
    refine hK.out _ _ ?_
    clear hK K
    try simp only [Act.put,ub1,ub2,ub3]
    refine take_V (i:=8) (v:=?_) rfl (by kernel_rfl) (by kernel_rfl) (by kernel_rfl) (by kernel_rfl) (fun _ _ _ h=>h) (by rfl) ?_ ?_
    rotate_left
    ·intro w;go_simp;all_goals (with_reducible rfl)
    try simp only [Act.put,ub1,ub2,ub3]
    refine ready_U (rs:=[9,10]) (by kernel_rfl) (by simp) ?_
    refine cons_V rfl (by kernel_rfl) (fun K hK=>?_) (cons_V rfl (by kernel_rfl) (fun K hK=>?_) nil_U)
    ·go_simp
     refine hK.out _ _ ?_
     clear hK K
     try simp only [Act.put,ub1,ub2,ub3]
     generalize hw8:(((w7.setCell _ _).setCell _ _).setCell _ _).setCell _ _=w8
     have hm8:Chalk.Mod (fun k=>k=g') w7 w8:=by rw [<- hw8];exact put4_mod _ _ _ _ _ _ _
     have yb:=hm8.block _ xHl (Ne.symm hgH)
     have yH:w8.cell? ⟨w.heap.size+1,0,none⟩=some (.slice oa j ocap):=(World.cell?_of_block yb).trans xH
     have yHf:w8.frozen? ⟨w.heap.size+1,0,none⟩=false:=fH (yb.trans hb7.out)
     have HW8:=Lh hw8
     clear hw8 hm8 yb
     refine ready_U (rs:=[10]) (by kernel_rfl) (by simp) ?_
     refine cons_V rfl (by kernel_rfl) (fun K hK=>?_) nil_U
     go_simp
     refine hK.out _ _ ?_
     clear hK K
     try simp only [Act.put,ub1,ub2,ub3]
     refine done_U (by kernel_rfl) ?_ _
     refine NoPanic.normal ?_
     go_wp2_with fail
     go_roundw
     case measure=>simp [intOf];omega
     case rel=>exact ⟨j+1,by omega,by go_num,Lh (HF.out _ (.inl (by rw [<- HW8.out];rfl)))⟩
    ·go_simp
     refine hK.out _ _ ?_
     clear hK K
     try simp only [Act.put,ub1,ub2,ub3]
     generalize hw8:w7.setCell _ _=w8
     have hm8:Chalk.Mod (fun k=>k=w.heap.size+1) w7 w8:=by rw [<- hw8];exact (Chalk.Mod.refl (fun k=>k=w.heap.size+1) w7).setCell (p:=⟨w.heap.size+1,0,none⟩) (fun _=>rfl) _
     have yb:=hm8.block g' xl hgH
     have y0:=(World.cell?_of_block (a:=⟨g',j*4,none⟩) yb).trans x0'
     have y1':=(World.cell?_of_block (a:=⟨g',j*4+1,none⟩) yb).trans x1'
     have y2:=(World.cell?_of_block (a:=⟨g',j*4+2,none⟩) yb).trans x2'
     have y3:=(World.cell?_of_block (a:=⟨g',j*4+3,none⟩) yb).trans x3'
     have yf0:=(World.frozen?_of_block (a:=⟨g',j*4,none⟩) yb).trans xf0
     have yf1:=(World.frozen?_of_block (a:=⟨g',j*4+1,none⟩) yb).trans xf1
     have yf2:=(World.frozen?_of_block (a:=⟨g',j*4+2,none⟩) yb).trans xf2
     have yf3:=(World.frozen?_of_block (a:=⟨g',j*4+3,none⟩) yb).trans xf3
     have HW8:=Lh hw8
     clear hw8 hm8 yb
     refine ready_U (rs:=[9]) (by kernel_rfl) (by simp) ?_
     refine cons_V rfl (by kernel_rfl) (fun K hK=>?_) nil_U
     go_simp
     refine hK.out _ _ ?_
     clear hK K
     try simp only [Act.put,ub1,ub2,ub3]
     refine done_U (by kernel_rfl) ?_ _
     refine NoPanic.normal ?_
     go_wp2_with fail
     go_roundw
     case measure=>simp [intOf];omega
     case rel=>exact ⟨j+1,by omega,by go_num,Lh (HF.out _ (.inr (by rw [<- HW8.out];rfl)))⟩
  ·have hjl:j=vs.length:=by omega
   subst hjl
   obtain ⟨⟨T1,T',hTT,v0,r,b1,b2,b3,b4,b5⟩,hqr,hbr⟩:=HR.out
   rw [List.take_length] at b5
   obtain ⟨x,hx,hsl⟩:=b5.sl (G:=fun k=>k<wr.heap.size) (fun k hk=>(b4 k hk.1).2) (fun k hk=>(b4 k (b3 k hk).1).2) (by rw [Tr.widths];simp)
   rw [List.length_map,List.length_map] at hx
   subst hx
   have HO1:=Lh (fun (k:Int) (W:World) (hk:I64 k) (hW:Below wr.heap.size wr W)=>one1_any k vs x W (w.heap.size+1) hk ((hW.block _ (gS b1).1).trans b1) (hsl.later hW hW.size) HV.out.2)
   have HBR:=Lh (aI hbr hqr)
   have hnl:decide ((vs.length:Int)<(vs.length:Int))=false:=by simp
   clear hTT b1 b2 b3 b4 b5 hqr hbr hsl HR HFF hj hlt
   go_wp2_with fail
   refine (HO1.out 1 wr (i64_small (by decide) (by decide)) (Below.refl _ _)).mono ?_
   rintro e w2 ⟨u1,rfl,hs1,hb1⟩
   have H1:=Lh (aI hs1 hb1)
   clear hs1 hb1
   go_wp2_with fail
   refine (HO1.out 2 w2 (i64_small (by decide) (by decide)) H1.out.2).mono ?_
   rintro e w3 ⟨u2,rfl,hs2,hb2⟩
   have hb3:=H1.out.2.trans (hb2.mono H1.out.2.size)
   have q3:=(hb3.block _ (gS HBR.out.2).1).trans HBR.out.2
   have H2:=Lh (aI hs2 (aI hb2 (aI hb3 q3)))
   have x0:w3.cell? ⟨w.heap.size,0,none⟩=some (.int .i64 0):=cH q3 rfl
   have f0:w3.frozen? ⟨w.heap.size,0,none⟩=false:=fH q3
   have x1:w3.cell? ⟨w.heap.size,1,none⟩=some (.int .i64 0):=cH q3 rfl
   have f1:w3.frozen? ⟨w.heap.size,1,none⟩=false:=fH q3
   have x2:w3.cell? ⟨w.heap.size,2,none⟩=some (.int .i64 0):=cH q3 rfl
   have f2:w3.frozen? ⟨w.heap.size,2,none⟩=false:=fH q3
   have x3:w3.cell? ⟨w.heap.size,3,none⟩=some (.slice none 0 0):=cH q3 rfl
   have f3:w3.frozen? ⟨w.heap.size,3,none⟩=false:=fH q3
   have hl3:=(gS q3).1
   clear hs2 hb2 hb3 q3
   go_wp2_with fail
   have hq3:=put4_heap H2.out.2.2.2 (.int .i64 4) (.int .i64 0) (.int .i64 0) (.slice (some ⟨w3.heap.size+1,0,none⟩) 2 2)
   have hm3:=put4_mod w3 w.heap.size 0 (.int .i64 4) (.int .i64 0) (.int .i64 0) (.slice (some ⟨w3.heap.size+1,0,none⟩) 2 2)
   have hs3:(put4 w3 w.heap.size 0 (.int .i64 4) (.int .i64 0) (.int .i64 0) (.slice (some ⟨w3.heap.size+1,0,none⟩) 2 2)).heap.size=w3.heap.size:=by unfold put4;simp
   unfold put4 at hq3 hm3 hs3
   simp only [Nat.zero_add] at hq3 hm3 hs3
   generalize (((w3.setCell _ _).setCell _ _).setCell _ _).setCell _ _=WP at hq3 hm3 hs3 ⊢
   have kA1:((WP.alloc (.cells #[.int .i64 6,.int .i64 0,.int .i64 2,.slice u2.a vs.length u2.cap] 39)).alloc (.cells #[.int .i64 6,.int .i64 0,.int .i64 1,.slice u1.a vs.length u1.cap,.int .i64 3,.int .i64 0,.int .i64 0,.slice (some ⟨w3.heap.size,0,none⟩) 1 1] 39)).heap[w3.heap.size]?=some (.cells #[.int .i64 6,.int .i64 0,.int .i64 2,.slice u2.a vs.length u2.cap] 39 (0,0)):=by rw [heap_get,if_neg (by simp;omega),heap_get,if_pos hs3.symm]
   have kA2:((WP.alloc (.cells #[.int .i64 6,.int .i64 0,.int .i64 2,.slice u2.a vs.length u2.cap] 39)).alloc (.cells #[.int .i64 6,.int .i64 0,.int .i64 1,.slice u1.a vs.length u1.cap,.int .i64 3,.int .i64 0,.int .i64 0,.slice (some ⟨w3.heap.size,0,none⟩) 1 1] 39)).heap[w3.heap.size+1]?=some (.cells #[.int .i64 6,.int .i64 0,.int .i64 1,.slice u1.a vs.length u1.cap,.int .i64 3,.int .i64 0,.int .i64 0,.slice (some ⟨w3.heap.size,0,none⟩) 1 1] 39 (0,0)):=by rw [heap_get,if_pos (by simp;omega)]
   have hbF:Below WP.heap.size WP ((WP.alloc (.cells #[.int .i64 6,.int .i64 0,.int .i64 2,.slice u2.a vs.length u2.cap] 39)).alloc (.cells #[.int .i64 6,.int .i64 0,.int .i64 1,.slice u1.a vs.length u1.cap,.int .i64 3,.int .i64 0,.int .i64 0,.slice (some ⟨w3.heap.size,0,none⟩) 1 1] 39)):=((Below.refl _ _).alloc (Nat.le_refl _) _).alloc (by simp) _
   generalize (WP.alloc (.cells #[.int .i64 6,.int .i64 0,.int .i64 2,.slice u2.a vs.length u2.cap] 39)).alloc (.cells #[.int .i64 6,.int .i64 0,.int .i64 1,.slice u1.a vs.length u1.cap,.int .i64 3,.int .i64 0,.int .i64 0,.slice (some ⟨w3.heap.size,0,none⟩) 1 1] 39)=WF at kA1 kA2 hbF ⊢
   have hq4:=(hbF.block _ (gS hq3).1).trans hq3
   have y0:WF.cell? ⟨w.heap.size,0,none⟩=some (.int .i64 4):=cH hq4 rfl
   have y1:WF.cell? ⟨w.heap.size,1,none⟩=some (.int .i64 0):=cH hq4 rfl
   have y2:WF.cell? ⟨w.heap.size,2,none⟩=some (.int .i64 0):=cH hq4 rfl
   have y3:WF.cell? ⟨w.heap.size,3,none⟩=some (.slice (some ⟨w3.heap.size+1,0,none⟩) 2 2):=cH hq4 rfl
   have HY:=Lh (aI hm3 (aI hs3 (aI kA1 (aI kA2 hbF))))
   clear hq3 hm3 hs3 kA1 kA2 hbF hq4 x0 x1 x2 x3 f0 f1 f2 f3
   refine bodyPost_ret (v:=.agg #[.int .i64 4,.int .i64 0,.int .i64 0,.slice (some ⟨w3.heap.size+1,0,none⟩) 2 2]) (by simp [results,Tryz.results42,go_sem,y0,y1,y2,y3]) rfl ?_
   have z1:=HBR.out.1.size
   have z2:=H1.out.2.size
   have z3:=H2.out.2.1.size
   have z4:=HY.out.2.1
   have z5:=HY.out.2.2.2.2.size
   have z6:=(gS HY.out.2.2.2.1).1
   have hlr:=(gS HBR.out.2).1
   have hlm:(vs.map leafT).length=vs.length:=List.length_map ..
   have h3F:∀ k,wr.heap.size<=k->k<w3.heap.size->WF.heap[k]?=w3.heap[k]?:=fun k h1 h2=>(HY.out.2.2.2.2.block k (by omega)).trans (HY.out.1.block k h2 (by omega))
   have s1:SlIn WF (fun k=>w.heap.size<=k/\k<WF.heap.size) ((vs.map leafT).map Tr.toD) u1:=(H1.out.1.agree (fun k hk=>(h3F k hk.1 (by have:=hk.2;omega)).trans (H2.out.2.1.block k hk.2))).mono (fun k hk=>⟨by omega,by omega⟩)
   have s2:SlIn WF (fun k=>w.heap.size<=k/\k<WF.heap.size) ((vs.map leafT).map Tr.toD) u2:=(H2.out.1.agree (fun k hk=>h3F k (by have:=hk.1;omega) hk.2)).mono (fun k hk=>⟨by omega,by omega⟩)
   have d1:=Tr.close (kind:=6) (v:=0) (k:=1) (i64_small (by decide) (by decide)) (i64_small (by decide) (by decide)) (i64_small (by decide) (by decide)) s1
   have d2:=Tr.close (kind:=6) (v:=0) (k:=2) (i64_small (by decide) (by decide)) (i64_small (by decide) (by decide)) (i64_small (by decide) (by decide)) s2
   rw [hlm] at d1 d2
   have s3:SlIn WF (fun k=>w.heap.size<=k/\k<WF.heap.size) ([Tr.mk 6 0 2 (vs.map leafT)].map Tr.toD) ⟨some ⟨w3.heap.size,0,none⟩,w3.heap.size,0,1⟩:=SlIn.lit HY.out.2.2.1 (DsAt.oneT d2) ⟨by omega,by omega⟩ (by simp) (by unfold maxLen;omega)
   have d3:=Tr.close (kind:=3) (v:=0) (k:=0) (i64_small (by decide) (by decide)) (i64_small (by decide) (by decide)) (i64_small (by decide) (by decide)) s3
   have s4:SlIn WF (fun k=>w.heap.size<=k/\k<WF.heap.size) ([Tr.mk 6 0 1 (vs.map leafT),Tr.mk 3 0 0 [Tr.mk 6 0 2 (vs.map leafT)]].map Tr.toD) ⟨some ⟨w3.heap.size+1,0,none⟩,w3.heap.size+1,0,2⟩:=SlIn.lit HY.out.2.2.2.1 (by
    simp only [List.map_cons,List.map_nil]
    rw [DsAt]
    exact ⟨_,_,rfl,d1,DsAt.oneT d3⟩) ⟨by omega,by omega⟩ (by simp) (by unfold maxLen;omega)
   have d4:=Tr.close (kind:=4) (v:=0) (k:=0) (i64_small (by decide) (by decide)) (i64_small (by decide) (by decide)) (i64_small (by decide) (by decide)) s4
   exact ⟨_,rfl,d4,(((HBR.out.1.trans (H2.out.2.2.1.mono HBR.out.1.size)).trans (HY.out.1.below (by omega) (fun k hk=>by omega))).trans (HY.out.2.2.2.2.mono (by omega)))⟩
end Go.Proofs.YtjjkfgjnadaheaaGreatDoor
/- ground.Frame. (written by tools/gen_gframe.py) -/
namespace Go.Chalk
open Go.RowKit
variable {P:Program}
theorem KidsAt.calls {Wc W0:World} {B:Nat} {e:TypeId} {v:Value} {ts:List Tr} {ys:List D} {cs:List Value} (h:KidsAt Wc B e v ts) (hm:Below Wc.heap.size Wc W0) (hB:B<=Wc.heap.size) (ht:DsAt W0 (fun k=>Wc.heap.size<=k/\k<W0.heap.size) ys cs) :
  ∃ F,OwnN W0 B F e 4 v (ts.map Tr.toD)/\DsAt W0 F ys cs/\∀ k,F k->B<=k:=by
 obtain ⟨F,⟨r,h1,h2⟩,h3⟩:=h
 have hz:=hm.size
 refine ⟨fun k=>F k∨(Wc.heap.size<=k/\k<W0.heap.size),⟨r,(h1.below hm).widen (fun _=>.inl) (fun k hk hk'=>?_) (fun k hk=>?_),h2⟩,DsAt.mono (fun k hk=>.inr hk) _ _ ht,fun k hk=>?_⟩
 ·rcases hk' with h | h
  ·exact h1.off k hk h
  ·have:=h1.row_lt hk;omega
 ·rcases hk with h | h
  ·have:=h1.lt k h;omega
  ·exact h.2
 ·rcases hk with h | h
  ·exact h3 k h
  ·omega
theorem step_append_manyO {W0:World} {B:Nat} (hB:W0.heap.size=B) {lo:Nat} {F:Nat->Prop} {ops:Array Oper} {o:Oper} {a:Act} {K:Act->World->Prop} {Q:Exit->Act->World->Prop} {E:Prop} (hgd:o.guard=none) (s x:Operand) (t:TypeId)
  (ho:o.op=.call { callee:=.builtin .append,args:=#[s,x],argTypes:=#[t,t] }) (e:TypeId) (i:TypeInfo) (z:Value) (size bytes:Nat) (ht:P.underlying t=some (.slice e)) (hi:P.info? e=some i) (hz:i.zero=some z)
  (hsize:i.size=size) (hby:i.bytes=bytes) (hzs:z.cells.size=size) (hsz:0<size) (v:Value) (xs ys:List D) (m:Nat) (hm:ys.length=m) (hm0:0<m) (cs:List Value) (T:TypeId) (hs:a.eval s=v) (hx:a.eval x=.slice (some ⟨B,0,none⟩) m m)
  (hv:OwnN W0 lo F e size v xs) (hd:DsAt W0 F ys cs) (hlo:lo<=W0.heap.size) (hw:widths ys=m*size) (h63:xs.length+m<=maxLen) (hbytes:(xs.length+m)*bytes<=140737488355328)
  (h:∀ ao cap w',OwnN w' lo F e size (.slice ao (xs.length+m) cap) (xs++ys)->Below lo W0 w'->K (a.put o.dst (.slice ao (xs.length+m) cap)) w') :
  if Region.wanted o (yielded ops a.tmps)=true then Oper.wp P o a (W0.alloc (.cells cs.toArray T)) K Q else E:=by
 have hwn:Region.wanted o (yielded ops a.tmps)=true:=by simp [Region.wanted,hgd]
 rw [if_pos hwn]
 subst hm
 obtain ⟨r,h1,h2⟩:=hv
 have hb:Below W0.heap.size W0 (W0.alloc (.cells cs.toArray T)):=(Below.refl _ _).alloc (Nat.le_refl _) _
 have hnb:(W0.alloc (.cells cs.toArray T)).heap[W0.heap.size]?=some (.cells cs.toArray T (0,0)):=boxed (B:=W0.heap.size+1) (Below.refl _ _) (by omega)
 have hnews:∀ j u,cs[j]?=some u->(W0.alloc (.cells cs.toArray T)).cell? ((⟨W0.heap.size,0,none⟩:Addr).add j)=some u:=fun j u hu=>by
  have hc:=cH (i:=j) hnb (v:=u) (by simpa using hu)
  unfold Addr.add
  by_cases h0:j=0
  ·subst h0;simpa using hc
  ·rw [if_neg h0];simpa using hc
 have hlen:cs.length=ys.length*size:=by rw [DsAt.length _ _ hd,hw]
 have hd':DsAt (W0.alloc (.cells cs.toArray T)) F ys cs:=DsAt.agree ((agree_of_below hb).mono h1.lt) _ _ hd
 have h1':=h1.alloc (.cells cs.toArray T)
 obtain ⟨cs0,k1,k2⟩:=h1'.cells
 refine wp_append_lies (W0.alloc (.cells cs.toArray T)) s x t ho 0 e i z size bytes ht hi hz hsize hby hzs hsz v xs.length cs0 hs k1 ⟨W0.heap.size,0,none⟩ ys.length ys.length cs (by rw [hx,hB]) hlen hnews (DsAt.one _ _ hd) hm0 h63 hbytes (Nat.zero_le _) _ rfl (fun g cap w' hown hgr hat hlt=>?_)
 obtain ⟨g1,g2,g3⟩:=h1'.appended (ys:=ys) k2 hown hgr (by rcases hat with h | h;exact .inl h.symm;exact .inr (by rw [h];rfl)) hd'
 have hm0:Mod (fun k=>r=some k) W0 w':=(Mod.of_below (S:=fun k=>r=some k) hb).trans g2 (fun _ _ h=>h)
 refine h _ _ _ ⟨_,g1,fun k hk=>?_⟩ (hm0.below hlo (fun k hk=>h2 k hk))
 rcases g3 with g3 | g3
 ·rw [g3] at hk;exact h2 k hk
 ·rw [g3] at hk;simp at hk;omega
def gFrameF (s:Schl):List Tr×Int:=if schCheck s ≠ 0 then ([],schCheck s) else (frameF s,0)
def frameG (s:Schl) (j:Nat):List Tr:=(List.range j).flatMap (fun i=>[oneT (slotsV s i),oneT (roomsV s i)])
theorem frameG_succ (s:Schl) (j:Nat):frameG s (j+1)=frameG s j++[oneT (slotsV s j),oneT (roomsV s j)]:=by
 unfold frameG;rw [List.range_succ,List.flatMap_append];simp
theorem frameG_len (s:Schl) (j:Nat):(frameG s j).length=2*j:=by
 induction j with
 | zero=>rfl
 | succ j ih=>rw [frameG_succ,List.length_append,ih];simp;omega
end Go.Chalk
namespace Go.Proofs.YtjjkfgjnadaheaaGreatDoor
open Go.RowKit Go.Chalk
attribute [local go_sem] Oper.semAt_some
theorem frame1_any (s:Schl) (x:SchA) (i j:Int) (sb ib:Nat) (w:World) (hsm:SchSmall s) (hs:SchBox w sb s x) (hi:w.heap[ib]?=some (.cells #[.int .i64 i] 3 (0,0))) :
  Calls Tryz.prog 43 #[.int .i64 j,.pointer (some ⟨sb,0,none⟩),.pointer (some ⟨ib,0,none⟩)] w fun e w'=>e=.returned (.int .i64 (wkAt s i j))/\Below w.heap.size w w':=by
 have HW:=Lh (wat_any s x i j w hsm.lessons hsm.slots hsm.rooms)
 obtain ⟨c0,c1,c2,c3,c4⟩:=hs.cells
 have d0:w.cell? ⟨ib,0,none⟩=some (.int .i64 i):=cH hi rfl
 clear hs hi
 simp only [SchA.cells,SlA.val] at HW c0 c1 c2 c3 c4
 go_enter Tryz.func43,Tryz.ntmps43
 go_wp2_with fail
 refine HW.out.mono ?_
 rintro e w1 ⟨rfl,hb⟩
 go_wp2_with fail
 go_ret
 exact ⟨rfl,hb⟩
theorem slotsV_len (s:Schl) (i:Nat):(slotsV s i).length=s.slots.length:=by simp [slotsV]
theorem slotsV_get {s:Schl} {i q:Nat} {v:Int} (h:(slotsV s i)[q]?=some v):v=wkAt s i q:=by
 unfold slotsV at h
 rw [List.getElem?_map] at h
 cases hq:(List.range s.slots.length)[q]? with
 | none=>rw [hq] at h;cases h
 | some k =>
  rw [hq] at h
  obtain ⟨h1,h2⟩:=List.getElem?_eq_some_iff.1 hq
  simp at h2
  subst h2
  simpa using h.symm

theorem frame2_any (s:Schl) (x:SchA) (i j:Int) (sb ib:Nat) (w:World) (hsm:SchSmall s) (hs:SchBox w sb s x) (hi:w.heap[ib]?=some (.cells #[.int .i64 i] 3 (0,0))) :
  Calls Tryz.prog 45 #[.int .i64 j,.pointer (some ⟨sb,0,none⟩),.pointer (some ⟨ib,0,none⟩)] w fun e w'=>e=.returned (.int .i64 (wkIn s i j))/\Below w.heap.size w w':=by
 have HW:=Lh (win_any s x i j w hsm.lessons hsm.slots hsm.rooms)
 obtain ⟨c0,c1,c2,c3,c4⟩:=hs.cells
 have d0:w.cell? ⟨ib,0,none⟩=some (.int .i64 i):=cH hi rfl
 clear hs hi
 simp only [SchA.cells,SlA.val] at HW c0 c1 c2 c3 c4
 go_enter Tryz.func45,Tryz.ntmps45
 go_wp2_with fail
 refine HW.out.mono ?_
 rintro e w1 ⟨rfl,hb⟩
 go_wp2_with fail
 go_ret
 exact ⟨rfl,hb⟩
theorem roomsV_len (s:Schl) (i:Nat):(roomsV s i).length=s.rooms.length:=by simp [roomsV]
theorem roomsV_get {s:Schl} {i q:Nat} {v:Int} (h:(roomsV s i)[q]?=some v):v=wkIn s i q:=by
 unfold roomsV at h
 rw [List.getElem?_map] at h
 cases hq:(List.range s.rooms.length)[q]? with
 | none=>rw [hq] at h;cases h
 | some k =>
  rw [hq] at h
  obtain ⟨h1,h2⟩:=List.getElem?_eq_some_iff.1 hq
  simp at h2
  subst h2
  simpa using h.symm

def FrameP (w:World) (r:List Tr×Int) (e:Ending) (w':World):Prop:=∃ u:SlA,e=.returned (.tuple #[.slice u.a r.1.length u.cap,.int .i64 r.2])/\SlIn w' (fun k=>w.heap.size<=k/\k<w'.heap.size) (r.1.map Tr.toD) u/\Below w.heap.size w w'
theorem oneT_call (s:Schl) (x:SchA) (i:Nat) (sb ib:Nat) (w:World) (hsm:SchSmall s) (hs:SchBox w sb s x) (hi:w.heap[ib]?=some (.cells #[.int .i64 (i:Int)] 3 (0,0))) :
  Calls Tryz.prog 42 #[.int .i64 s.slots.length,.func (.func 43) #[] #[.pointer (some ⟨sb,0,none⟩),.pointer (some ⟨ib,0,none⟩)]] w (fun e w'=>∃ k0 k1 k2 a n cap,e=.returned (.agg #[.int .i64 k0,.int .i64 k1,.int .i64 k2,.slice a n cap])/\DAt w' (fun k=>w.heap.size<=k/\k<w'.heap.size) (oneT (slotsV s i)).toD [.int .i64 k0,.int .i64 k1,.int .i64 k2,.slice a n cap]/\Below w.heap.size w w') /\
  Calls Tryz.prog 42 #[.int .i64 s.rooms.length,.func (.func 45) #[] #[.pointer (some ⟨sb,0,none⟩),.pointer (some ⟨ib,0,none⟩)]] w (fun e w'=>∃ k0 k1 k2 a n cap,e=.returned (.agg #[.int .i64 k0,.int .i64 k1,.int .i64 k2,.slice a n cap])/\DAt w' (fun k=>w.heap.size<=k/\k<w'.heap.size) (oneT (roomsV s i)).toD [.int .i64 k0,.int .i64 k1,.int .i64 k2,.slice a n cap]/\Below w.heap.size w w'):=by
 have h1:=one_any 43 #[.pointer (some ⟨sb,0,none⟩),.pointer (some ⟨ib,0,none⟩)] (slotsV s i) w (enters_of Tryz.func43 (by kernel_rfl) rfl) (fun v hv=>by
  unfold slotsV at hv
  obtain ⟨q,_,rfl⟩:=List.mem_map.1 hv
  exact wkAt_fit s _ _ hsm.lessons hsm.slots hsm.rooms) (by rw [slotsV_len];exact hsm.slots) (fun q v W hq hW=>by
  rw [slotsV_get hq]
  exact frame1_any s x i q sb ib W hsm ((hW.block _ (gS hs).1).trans hs) ((hW.block _ (gS hi).1).trans hi))
 have h2:=one_any 45 #[.pointer (some ⟨sb,0,none⟩),.pointer (some ⟨ib,0,none⟩)] (roomsV s i) w (enters_of Tryz.func45 (by kernel_rfl) rfl) (fun v hv=>by
  unfold roomsV at hv
  obtain ⟨q,_,rfl⟩:=List.mem_map.1 hv
  exact wkIn_fit s _ _ hsm.lessons hsm.slots hsm.rooms) (by rw [roomsV_len];exact hsm.rooms) (fun q v W hq hW=>by
  rw [roomsV_get hq]
  exact frame2_any s x i q sb ib W hsm ((hW.block _ (gS hs).1).trans hs) ((hW.block _ (gS hi).1).trans hi))
 rw [slotsV_len] at h1
 rw [roomsV_len] at h2
 have key:∀ (t:Tr) (e:Ending) (w':World),(∃ cs,e=.returned (.agg cs)/\DAt w' (fun k=>w.heap.size<=k/\k<w'.heap.size) t.toD cs.toList/\Below w.heap.size w w')->∃ k0 k1 k2 a n cap,e=.returned (.agg #[.int .i64 k0,.int .i64 k1,.int .i64 k2,.slice a n cap])/\DAt w' (fun k=>w.heap.size<=k/\k<w'.heap.size) t.toD [.int .i64 k0,.int .i64 k1,.int .i64 k2,.slice a n cap]/\Below w.heap.size w w':=by
  rintro t e w' ⟨cs,rfl,hd,hb⟩
  have hl:=DAt.length _ _ hd
  rw [Tr.width] at hl
  obtain ⟨d0,d1,d2,d3,hcs⟩:=len_four hl
  rw [hcs] at hd
  obtain ⟨k0,k1,k2,a,n,cap,rfl,rfl,rfl,rfl⟩:=TreeV.shape hd
  refine ⟨k0,k1,k2,a,n,cap,?_,hd,hb⟩
  rw [<- Array.toArray_toList (xs:=cs),hcs]
 exact ⟨h1.mono (key _),h2.mono (key _)⟩
theorem gFrame_any (s:Schl) (x:SchA) (w:World) (hI:ItoaAt) (hf:SchFit s) (hg:GG w) (hs:SchIn w (·<w.heap.size) s x) :
  Calls Tryz.prog 16 #[.agg (x.cells s).toArray] w (FrameP w (gFrameF s)):=by
 have hb0:Below w.heap.size w (w.alloc (.cells (x.cells s).toArray 28)):=(Below.refl _ _).alloc (Nat.le_refl _) _
 have hq0:SchBox (w.alloc (.cells (x.cells s).toArray 28)) w.heap.size s x:=by unfold SchBox;rw [heap_get,if_pos rfl]
 have HCK:=Lh (scheck_any s x (w.alloc (.cells (x.cells s).toArray 28)) hI (hs.later hb0 hb0.size) hf (hg.below hb0))
 have HSM:=Lh hf.toSchSmall
 have HB:=Lh (aI hb0 hq0)
 have HR:Hid (gFrameF s=if schCheck s ≠ 0 then ([],schCheck s) else (frameF s,0)):=Lh rfl
 obtain ⟨i0,hi0,hz0',hz1',hz2'⟩:=info_parts infoTree
 have hmf:∀ (fn:Fn) (first cap:Array Value) (w:World),(Instr.makeFunc fn first cap).run Tryz.prog w=.ok (.func fn first cap) w:=fun _ _ _ _=>rfl
 clear hb0 hq0 hI hf hg hs
 generalize gFrameF s=res at HR ⊢
 generalize schCheck s=sc at HCK HR
 simp only [SchA.cells,SlA.val] at HCK ⊢
 obtain ⟨a0,a1,a2,a3,a4⟩:=HB.out.2.cells
 simp only [SchA.cells,SlA.val] at a0 a1 a2 a3 a4
 go_enter Tryz.func16,Tryz.ntmps16
 go_wp2_with fail
 refine HCK.out.mono ?_
 rintro e w1 ⟨rfl,hb1⟩
 have H1:=Lh (aI (HB.out.1.trans (hb1.mono HB.out.1.size)) (HB.out.2.below hb1))
 clear hb1 a0 a1 a2 a3 a4
 by_cases h1:sc ≠ 0
 ·have d1:(sc != 0)=true:=by simpa using h1
  have HE:Hid (res=([],sc)):=Lh (by rw [HR.out,if_pos h1])
  clear h1
  go_wp2_with fail
  go_ret2
  rw [HE.out]
  exact ⟨⟨none,0,0,0⟩,rfl,SlIn.nil (Nat.zero_le _) _ _ _,H1.out.1⟩
 obtain rfl:sc=0:=by omega
 have HE:Hid (res=(frameF s,0)):=Lh (by rw [HR.out,if_neg h1])
 clear h1
 obtain ⟨_,_,_,_,a4⟩:=H1.out.2.cells
 have hlm:=HSM.out.lessons
 go_wp2_with fail
 go_loopw [5,15] (fun v i wr=>∃ j:Nat,j<=s.lessons.length/\i=.int .i64 j/\Hid (KidsAt wr w1.heap.size 39 v (frameG s j)/\Below w1.heap.size w1 wr)) (fun _ i _=>s.lessons.length - (intOf i).toNat)
 case atStart=>exact ⟨0,Nat.zero_le _,rfl,Lh ⟨KidsAt.nil _ _ _,Below.refl _ _⟩⟩
 case round =>
  clear a4
  obtain ⟨j,hj,rfl,HR2⟩:=hrel
  obtain ⟨oa,ocap,hv⟩:=HR2.out.1.form
  subst hv
  rw [frameG_len] at HR2 ⊢
  by_cases hlt:j<s.lessons.length
  ·obtain ⟨WA,hWA⟩:∃ WA,WA=wr.alloc (.cells #[.int .i64 (j:Int)] 3):=⟨_,rfl⟩
   have hbA:Below wr.heap.size wr WA:=by rw [hWA];exact (Below.refl _ _).alloc (Nat.le_refl _) _
   have hzA:WA.heap.size=wr.heap.size+1:=by rw [hWA];simp
   have hkA:WA.heap[wr.heap.size]?=some (.cells #[.int .i64 (j:Int)] 3 (0,0)):=by rw [hWA,heap_get,if_pos rfl]
   have hqw:SchBox wr w.heap.size s x:=H1.out.2.below HR2.out.2
   have hqA:SchBox WA w.heap.size s x:=hqw.below hbA
   have HON:=Lh (fun (W:World) (hW:Below WA.heap.size WA W)=>oneT_call s x j w.heap.size wr.heap.size W HSM.out (hqA.below hW) ((hW.block _ (gS hkA).1).trans hkA))
   have HKS:Hid (∀ w',Below WA.heap.size WA w'->w'.cell? ⟨w.heap.size,0,none⟩=some (.slice x.slots.a s.slots.length x.slots.cap)/\w'.cell? ⟨w.heap.size,1,none⟩=some (.slice x.rooms.a s.rooms.length x.rooms.cap)):=Lh (fun w' hW=>by
    obtain ⟨g0,g1,_⟩:=(hqA.below hW).cells
    exact ⟨g0,g1⟩)
   have HA:=Lh (aI hbA (aI hzA HR2.out.2.size))
   have HWA:=Lh hWA.symm
   have hjm:j<2000000:=by omega
   clear hbA hzA hkA hqw hqA hWA
   go_wp2_with fail
   rw [HWA.out]
   refine wp_region_noPanic ?_
   refine wp_region_U 13 (S:=fun w'=>w'.cell? ⟨w.heap.size,0,none⟩=some (.slice x.slots.a s.slots.length x.slots.cap)/\w'.cell? ⟨w.heap.size,1,none⟩=some (.slice x.rooms.a s.rooms.length x.rooms.cap)) (by kernel_rfl) (HKS.out _ (Below.refl _ _).drew) (fun hHeld=>?_)
   refine tkU (i:=0) rfl hHeld ?_
   try simp only [Act.put,ub1,ub2,ub3]
   refine tkU (i:=1) rfl hHeld ?_
   try simp only [Act.put,ub1,ub2,ub3]
   refine tkU (i:=2) rfl hHeld ?_
   try simp only [Act.put,ub1,ub2,ub3]
   refine tkU (i:=3) rfl hHeld ?_
   try simp only [Act.put,ub1,ub2,ub3]
   refine tkU (i:=4) rfl hHeld ?_
   try simp only [Act.put,ub1,ub2,ub3]
   refine tkU (i:=6) rfl hHeld ?_
   try simp only [Act.put,ub1,ub2,ub3]
   refine tkU (i:=7) rfl hHeld ?_
   try simp only [Act.put,ub1,ub2,ub3]
   refine tkU (i:=8) rfl hHeld ?_
   try simp only [Act.put,ub1,ub2,ub3]
   refine tkU (i:=9) rfl hHeld ?_
   try simp only [Act.put,ub1,ub2,ub3]
   refine ready_U (rs:=[5]) (by kernel_rfl) (by simp) ?_
   refine cons_U rfl (fun K hK=>?_) nil_U
   go_simp
   go_at_call 42
   refine (HON.out WA.drew (Below.refl _ _).drew).1.mono ?_
   rintro e w2 ⟨k0,k1,k2,ta,tn,tcap,rfl,hd,hb⟩
   have K2:=Lh (aI hd (Below.trans (Below.refl WA.heap.size WA).drew (hb.mono (Nat.le_refl _))))
   clear hd hb
   go_simp
   refine hK.out _ _ ?_ (fun hHeld2=>?_)
   ·exact HKS.out _ K2.out.2
   clear hK K hHeld
   have hHeld:=hHeld2
   clear hHeld2
   try simp only [Act.put,ub1,ub2,ub3]
   refine ready_U (rs:=[10]) (by kernel_rfl) (by simp) ?_
   refine cons_U rfl (fun K hK=>?_) nil_U
   go_simp
   go_at_call 42
   refine (HON.out w2 K2.out.2).2.mono ?_
   rintro e w3 ⟨l0,l1,l2,ra,rn,rcap,rfl,hd,hb⟩
   have K3:=Lh (aI hd (aI hb (K2.out.2.trans (hb.mono K2.out.2.size))))
   clear hd hb
   go_simp
   refine hK.out _ _ ?_ (fun hHeld2=>?_)
   ·exact HKS.out _ K3.out.2.2
   clear hK K hHeld
   have hHeld:=hHeld2
   clear hHeld2
   try simp only [Act.put,ub1,ub2,ub3]
   refine ready_U (rs:=[11]) (by kernel_rfl) (by simp) ?_
   refine cons_U rfl (fun K hK=>?_) nil_U
   go_simp
   refine hK.out _ _ ?_ (fun hHeld2=>?_)
   ·exact HKS.out _ (K3.out.2.2.alloc K3.out.2.2.size _)
   clear hK K hHeld
   have hHeld:=hHeld2
   clear hHeld2
   try simp only [Act.put,ub1,ub2,ub3]
   have hds:DsAt w3 (fun k=>wr.heap.size<=k/\k<w3.heap.size) [(oneT (slotsV s j)).toD,(oneT (roomsV s j)).toD] [.int .i64 k0,.int .i64 k1,.int .i64 k2,.slice ta tn tcap,.int .i64 l0,.int .i64 l1,.int .i64 l2,.slice ra rn rcap]:=by
    rw [DsAt]
    refine ⟨[_,_,_,_],_,rfl,DAt.mono (fun k hk=>⟨by have h:=hk.1;have h2:WA.drew.heap.size=WA.heap.size:=rfl;have:=HA.out.2.1;omega,by have:=K3.out.2.1.size;have:=hk.2;omega⟩) _ _ (DAt.agree (fun k hk=>K3.out.2.1.block k hk.2) _ _ K2.out.1),DsAt.oneT (DAt.mono (fun k hk=>⟨by have:=hk.1;have:=K2.out.2.size;have:=HA.out.2.1;omega,hk.2⟩) _ _ K3.out.1)⟩
   obtain ⟨F,ho,hd,hF⟩:=HR2.out.1.calls (HA.out.1.trans (K3.out.2.2.mono HA.out.1.size)) HA.out.2.2 hds
   have HO:=Lh (aI ho (aI hd hF))
   have HLN:Hid (((frameG s j).map Tr.toD).length=2*j):=Lh (by rw [List.length_map,frameG_len])
   clear ho hd hF hds
   refine ready_U (rs:=[12]) (by kernel_rfl) (by simp) ?_
   refine cons_U rfl (fun K hK=>?_) nil_U
   refine step_append_manyO (W0:=w3) (B:=w3.heap.size) rfl (by rfl) _ _ 37 (by rfl) 39 i0 _ 4 48 Tryz.underlying37 hi0 hz0' hz1' hz2' rfl (by decide) (.slice oa (2*j) ocap) ((frameG s j).map Tr.toD) [(oneT (slotsV s j)).toD,(oneT (roomsV s j)).toD] 2 rfl (by decide) [.int .i64 k0,.int .i64 k1,.int .i64 k2,.slice ta tn tcap,.int .i64 l0,.int .i64 l1,.int .i64 l2,.slice ra rn rcap] 39 (by rfl) (by rfl) HO.out.1 HO.out.2.1 (by have:=HA.out;have:=K3.out.2.2.size;omega) (by simp [Chalk.widths,Tr.width]) (by rw [HLN.out];unfold maxLen;omega) (by rw [HLN.out];omega) ?_
   intro ao cap w5 hon hb5
   rw [HLN.out] at hon ⊢
   have HK5:=Lh (aI hon hb5)
   have h5S:w5.cell? ⟨w.heap.size,0,none⟩=some (.slice x.slots.a s.slots.length x.slots.cap)/\w5.cell? ⟨w.heap.size,1,none⟩=some (.slice x.rooms.a s.rooms.length x.rooms.cap):=by
    obtain ⟨g0,g1⟩:=HKS.out w3 K3.out.2.2
    have hl:=H1.out.2
    have hlt5:w.heap.size<w1.heap.size:=(gS hl).1
    exact ⟨(hb5.cell (p:=⟨w.heap.size,0,none⟩) hlt5).trans g0,(hb5.cell (p:=⟨w.heap.size,1,none⟩) hlt5).trans g1⟩
   clear hon hb5
   refine hK.out _ _ ?_ (fun hHeld2=>?_)
   ·exact h5S
   clear hK K hHeld
   have hHeld:=hHeld2
   clear hHeld2
   try simp only [Act.put,ub1,ub2,ub3]
   refine ready_U (rs:=[13]) (by kernel_rfl) (by simp) ?_
   refine cons_V rfl (by kernel_rfl) (fun K hK=>?_) nil_U
   go_simp
   refine hK.out _ _ ?_
   clear hK K
   try simp only [Act.put,ub1,ub2,ub3]
   refine done_U (by kernel_rfl) ?_ _
   refine NoPanic.normal ?_
   go_wp2_with fail
   go_roundw
   case measure=>simp [intOf];omega
   case rel=>exact ⟨j+1,by omega,by go_num,Lh ⟨⟨F,by rw [frameG_succ,List.map_append];exact HK5.out.1,HO.out.2.2⟩,HR2.out.2.trans ((HA.out.1.mono HA.out.2.2).trans ((K3.out.2.2.mono (by have:=HA.out;omega)).trans HK5.out.2))⟩⟩
  ·have hjl:j=s.lessons.length:=by omega
   subst hjl
   obtain ⟨u,hu,hsl⟩:=HR2.out.1.sl
   rw [frameG_len] at hu
   simp only [SlA.val,Value.slice.injEq] at hu
   obtain ⟨rfl,-,rfl⟩:=hu
   have hnl:decide ((s.lessons.length:Int)<(s.lessons.length:Int))=false:=by simp
   have HSL:=Lh (aI hsl HR2.out.2)
   clear hsl HR2 hj hlt
   go_wp2_with fail
   go_ret2
   rw [HE.out]
   have hfl:(frameF s).length=2*s.lessons.length:=frameG_len s s.lessons.length
   refine ⟨u,by rw [hfl];rfl,HSL.out.1.mono (fun k hk=>⟨by have:=H1.out.1.size;omega,hk.2⟩),H1.out.1.trans (HSL.out.2.mono H1.out.1.size)⟩
end Go.Proofs.YtjjkfgjnadaheaaGreatDoor
/- The ground chapter's example as data: what the plain law says of it. -/
namespace Go.Chalk
open Go.RowKit
def grE:List Ev:=[⟨[108],1,0⟩]
def grV:List Tr:=[.mk 2 1 0 [],.mk 2 2 0 []]
theorem gr_some:gTreeF grS grE (grA 15 0)=(.mk 5 0 0 grV,0):=by kernel_rfl
theorem gr_all:gTreeF grS grE (grA 14 0)=(.mk 4 0 0 grV,0):=by kernel_rfl
theorem gr_most:gTreeF grS grE (grA 17 1)=(.mk 3 0 0 [.mk 6 0 2 grV],0):=by kernel_rfl
theorem gr_frame:(gFrameF grS).1.length=2/\(gFrameF grS).2=0:=by decide +kernel
theorem gr_env {W:World} {F:Nat->Prop}:DsAt W F (grE.map Ev.toD) [.string ⟨#[108]⟩,.int .i64 1,.int .i64 0]:=by
 have h1:DAt W F (Ev.toD ⟨[108],1,0⟩) [.string ⟨#[108]⟩,.int .i64 1,.int .i64 0]:=by rw [Ev.toD,DAt];exact dcons (str_at [108] (by decide)) (dcons (int_at 1 (by decide)) (dcons (int_at 0 (by decide)) dnil))
 exact dcons h1 dnil
theorem gr_var {W:World} {F:Nat->Prop} (n:Int) (hn : -1000<=n/\n<=1000):DAt W F (Tr.mk 2 n 0 []).toD [.int .i64 2,.int .i64 n,.int .i64 0,.slice none 0 0] :=
 Tr.close (u:=⟨none,0,0,0⟩) (i64_small (by decide) (by decide)) (i64_small (by omega) (by omega)) (i64_small (by decide) (by decide)) (SlIn.nil (Nat.zero_le _) _ _ _)
theorem gr_vars {W:World} {F:Nat->Prop}:DsAt W F (grV.map Tr.toD) [.int .i64 2,.int .i64 1,.int .i64 0,.slice none 0 0,.int .i64 2,.int .i64 2,.int .i64 0,.slice none 0 0] :=
 dcons (gr_var 1 (by decide)) (dcons (gr_var 2 (by decide)) dnil)
end Go.Chalk
namespace Go.Proofs.YtjjkfgjnadaheaaGreatDoor
open Go.RowKit Go.Chalk
theorem grS_fit:SchFit grS:=by
 refine ⟨⟨by decide,by decide,by decide,by decide,by decide⟩,fun sort x hx=>?_,by decide,by decide,by decide,by decide⟩
 have h:∀ k:Int,∀ x∈schNames grS k,x.length<=100:=by
  intro k x hx
  unfold schNames at hx
  split at hx
  ·revert x;decide
  split at hx
  ·revert x;decide
  split at hx
  ·revert x;decide
  split at hx
  ·revert x;decide
  split at hx
  ·revert x;decide
  split at hx
  ·revert x;decide
  split at hx
  ·revert x;decide
  ·cases hx
 have:=h sort x hx;omega
theorem grA_fit:FrmFit (grA 15 0)/\FrmFit (grA 14 0)/\FrmFit (grA 17 1):=⟨⟨by decide,by unfold FrmSm;decide +kernel⟩,⟨by decide,by unfold FrmSm;decide +kernel⟩,⟨by decide,by unfold FrmSm;decide +kernel⟩⟩
end Go.Proofs.YtjjkfgjnadaheaaGreatDoor
/- The reference's Value of a ground formula; Same on equal formulas. -/
namespace Go.Chalk
open Go.RowKit
theorem Tr.parts {w:World} {F:Nat->Prop} {kind v k:Int} {l:List Tr} {cs:List Value} (h:DAt w F (Tr.mk kind v k l).toD cs):∃ u:SlA,cs=[.int .i64 kind,.int .i64 v,.int .i64 k,.slice u.a l.length u.cap]/\I64 kind/\I64 v/\I64 k/\SlIn w F (l.map Tr.toD) u:=by
 rw [Tr.toD,DAt] at h
 simp only [DsAt] at h
 obtain ⟨_,_,rfl,h1,_,_,rfl,h2,_,_,rfl,h3,_,_,rfl,h4,rfl⟩:=h
 rw [DAt] at h1;rw [DAt] at h2;rw [DAt] at h3
 obtain ⟨rfl,h1⟩:=h1
 obtain ⟨rfl,h2⟩:=h2
 obtain ⟨rfl,h3⟩:=h3
 obtain ⟨u,rfl,hs⟩:=DAt.sl_iff.1 h4
 rw [Tr.toDs_eq] at hs ⊢
 exact ⟨u,by simp [SlA.val],wf_i64 h1,wf_i64 h2,wf_i64 h3,hs⟩
theorem cntG_take (a:List Bool) (l:List Tr) (j:Nat) (h:j<l.length):cntG (l.take (j+1)) a=cntG (l.take j) a+(if valG l[j] a then 1 else 0):=by
 rw [cntG_eq,cntG_eq,List.take_succ_eq_append_getElem h,List.countP_append,List.countP_cons,List.countP_nil];omega
theorem cntG_le (a:List Bool) (l:List Tr):cntG l a<=l.length:=by rw [cntG_eq];exact List.countP_le_length
end Go.Chalk
namespace Go.Proofs.YtjjkfgjnadaheaaGreatDoor
open Go.RowKit Go.Chalk
attribute [local go_sem] Oper.semAt_some
theorem gval_any (a:List Bool) (x:SlA) (m:Nat):∀ (t:Tr) (cs:List Value) (w:World),t.size<=m->t.size<=2000000->a.length<=2000000->DAt w (·<w.heap.size) t.toD cs->SlIn w (·<w.heap.size) (dbools a) x ->
  Calls Tryz.prog 21 #[.agg cs.toArray,.slice x.a a.length x.cap] w fun e w'=>e=.returned (.bool (valG t a))/\Below w.heap.size w w':=by
 induction m with
 | zero=>intro t _ _ h;have:=size_pos t;omega
 | succ m ih =>
  rintro ⟨kind,v,k,l⟩ cs w hm hsz hal ht hx
  obtain ⟨u,rfl,hk0,hv0,hk1,hs⟩:=Tr.parts ht
  rw [Tr.size_mk] at hm hsz
  have hll:=length_le_sizes l
  have hlm:l.length<=2000000:=by omega
  obtain ⟨xa,_,xm,xb⟩:SlAt (·<w.heap.size) x.a x.b x.o a.length/\a.length<=x.cap/\x.cap<=maxLen/\∀ (i:Nat) (h:i<a.length),w.cell? ⟨x.b,x.o+i,none⟩=some (.bool a[i]):=by
   obtain ⟨_,_,_,_,he,h1,h2,h3,h4⟩:=DAt.open_bools (w:=w) (F:=(·<w.heap.size)) (xs:=a) (cs:=[x.val (dbools a).length]) (DAt.sl_iff.2 ⟨x,rfl,hx⟩)
   simp only [SlA.val,List.cons.injEq,Value.slice.injEq,and_true] at he
   have hb:0<a.length->(_:Nat)=x.b/\_=x.o:=fun h=>by
    have e1:=(h1 h).1
    have e2:=(hx.at_ (by simpa using h)).1
    rw [<- he.1,e2] at e1
    simp only [Option.some.injEq,Addr.mk.injEq,and_true] at e1
    exact ⟨e1.1.symm,e1.2.symm⟩
   refine ⟨fun h=>hx.at_ (by simpa using h),by simpa using hx.le,hx.max,fun i hi=>?_⟩
   have:=h4 i hi
   rw [(hb (by omega)).1,(hb (by omega)).2] at this
   exact this
  have HIH:=Lh (fun (j:Nat) (hj:j<l.length) (W:World) (hW:Below w.heap.size w W) (cs:List Value) (hc:DAt W (·<W.heap.size) l[j].toD cs)=>ih l[j] cs W (by have:=size_le_sizes l j hj;omega) (by have:=size_le_sizes l j hj;omega) hal hc (hx.later hW hW.size))
  have HTR:=Lh (fun (j:Nat) (hj:j<l.length)=>hs.tre j hj)
  have HSA:Hid (0<l.length->u.a=some ⟨u.b,u.o,none⟩/\u.b<w.heap.size):=Lh (fun h=>hs.at_ (by simpa using h))
  have HX:=Lh (aI xa xb)
  have HV:Hid (valG (.mk kind v k l) a=if kind=1 then v==1 else if kind=2 then bitG a v else if kind=3 then notG l a else if kind=4 then decide (cntG l a=l.length) else if kind=5 then decide (0<cntG l a) else decide (k<=(cntG l a:Int))):=Lh valG_k
  clear ih ht hx hs xa xm xb hm hsz hll hk0 hv0
  generalize valG (.mk kind v k l) a=res at HV ⊢
  obtain ⟨W0,hW0⟩:∃ W0,W0=w.alloc (.cells #[.int .i64 kind,.int .i64 v,.int .i64 k,.slice u.a l.length u.cap] 39):=⟨_,rfl⟩
  have hb0:Below w.heap.size w W0:=by rw [hW0];exact (Below.refl _ _).alloc (Nat.le_refl _) _
  have hq0:W0.heap[w.heap.size]?=some (.cells #[.int .i64 kind,.int .i64 v,.int .i64 k,.slice u.a l.length u.cap] 39 (0,0)):=by rw [hW0,heap_get,if_pos rfl]
  have c0:W0.cell? ⟨w.heap.size,0,none⟩=some (.int .i64 kind):=cH hq0 rfl
  have c1:W0.cell? ⟨w.heap.size,1,none⟩=some (.int .i64 v):=cH hq0 rfl
  have c2:W0.cell? ⟨w.heap.size,2,none⟩=some (.int .i64 k):=cH hq0 rfl
  have c3:W0.cell? ⟨w.heap.size,3,none⟩=some (.slice u.a l.length u.cap):=cH hq0 rfl
  have HB:=Lh (aI hb0 hq0)
  have HW0:=Lh hW0.symm
  clear hb0 hq0 hW0
  by_cases h1:kind=1
  ·subst h1
   have HE:Hid (res=(v==1)):=Lh (by rw [HV.out,if_pos rfl])
   clear c0 c1 c2 c3
   go_enter Tryz.func21,Tryz.ntmps21
   go_wp2_with fail
   go_ret
   exact ⟨ret_bool (by rw [HE.out]),(Below.refl _ _).alloc (Nat.le_refl _) _⟩
  by_cases h2:kind=2
  ·subst h2
   have HE:Hid (res=bitG a v):=Lh (by rw [HV.out,if_neg (by decide),if_pos rfl])
   clear c0 c1 c2 c3
   by_cases hv0:0<=v
   ·by_cases hv1:v<(a.length:Int)
    ·obtain ⟨i,rfl⟩:=Int.eq_ofNat_of_zero_le hv0
     have hi:i<a.length:=by omega
     obtain ⟨hxa,hxl⟩:=HX.out.1 (by omega)
     have hb:=HX.out.2 i hi
     have HEI:Hid (bitG a (i:Int)=a[i]):=Lh (by unfold bitG;simp [hi])
     rw [hxa]
     generalize a[i]=ai at hb HEI
     clear hxa
     go_enter Tryz.func21,Tryz.ntmps21
     go_wp2_with fail
     all_goals
      go_ret
      exact ⟨ret_bool (by rw [HE.out,HEI.out]),(Below.refl _ _).alloc (Nat.le_refl _) _⟩
    ·have d1:decide (v<(a.length:Int))=false:=by simpa using hv1
     have HEI:Hid (bitG a v=false):=Lh (by
      unfold bitG
      rw [List.getD_eq_getElem?_getD,List.getElem?_eq_none (by omega)];simp)
     clear hv1
     go_enter Tryz.func21,Tryz.ntmps21
     go_wp2_with fail
     go_ret
     exact ⟨ret_bool (by rw [HE.out,HEI.out]),(Below.refl _ _).alloc (Nat.le_refl _) _⟩
   ·have d1:decide (0<=v)=false:=by simpa using hv0
    have HEI:Hid (bitG a v=false):=Lh (by unfold bitG;simp [hv0])
    clear hv0
    go_enter Tryz.func21,Tryz.ntmps21
    go_wp2_with fail
    go_ret
    exact ⟨ret_bool (by rw [HE.out,HEI.out]),(Below.refl _ _).alloc (Nat.le_refl _) _⟩
  by_cases h3:kind=3
  ·subst h3
   have HE:Hid (res=notG l a):=Lh (by rw [HV.out,if_neg (by decide),if_neg (by decide),if_pos rfl])
   by_cases hl0:0<l.length
   ·obtain ⟨hua,hub⟩:=HSA.out hl0
    obtain ⟨k0,k1,k2,ta,tn,tcap,hc,hd⟩:=HTR.out 0 hl0
    obtain ⟨e0,e1,e2,e3⟩:=(show CellsAt w u.b u.o [.int .i64 k0,.int .i64 k1,.int .i64 k2,.slice ta tn tcap] by simpa using hc).four
    have HC:=Lh (HIH.out 0 hl0 W0 HB.out.1 _ (DAt.mono (fun q hq=>by have:=HB.out.1.size;omega) _ _ (DAt.agree (agree_of_below HB.out.1) _ _ hd)))
    have HEI:Hid (notG l a = !(valG l[0] a)):=Lh (by cases l with | nil=>simp at hl0 | cons q r=>rfl)
    have hl0':(0:Int)<(l.length:Int):=by omega
    rw [hua]
    generalize valG l[0] a=va at HC HEI
    have HU:=Lh hua
    rw [hua] at HW0
    clear hc hd c0 c1 c2 c3 hua
    go_enter Tryz.func21,Tryz.ntmps21
    go_wp2_with fail
    rw [HW0.out]
    refine HC.out.mono ?_
    rintro e w2 ⟨rfl,hb2⟩
    have H2:=Lh (HB.out.1.trans (hb2.mono HB.out.1.size))
    clear hb2 e0 e1 e2 e3
    go_wp2_with fail
    go_ret
    exact ⟨ret_bool (by rw [HE.out,HEI.out]),H2.out⟩
   ·have hl0':decide ((0:Int)<(l.length:Int))=false:=decide_eq_false (by omega)
    have HEI:Hid (notG l a=false):=Lh (by cases l with | nil=>rfl | cons q r=>simp at hl0)
    clear c0 c1 c2 c3
    go_enter Tryz.func21,Tryz.ntmps21
    go_wp2_with fail
    go_ret
    exact ⟨ret_bool (by rw [HE.out,HEI.out]),(Below.refl _ _).alloc (Nat.le_refl _) _⟩
  ·have d1:(kind==1)=false:=by simpa using h1
   have d2:(kind==2)=false:=by simpa using h2
   have d3:(kind==3)=false:=by simpa using h3
   have HE:Hid (res=if kind=4 then decide (cntG l a=l.length) else if kind=5 then decide (0<cntG l a) else decide (k<=(cntG l a:Int))):=Lh (by rw [HV.out,if_neg h1,if_neg h2,if_neg h3])
   clear h1 h2 h3 c0 c1 c2 c3
   go_enter Tryz.func21,Tryz.ntmps21
   go_wp2_with fail
   rw [HW0.out]
   go_loopw [5,52] (fun n i wr=>∃ j:Nat,j<=l.length/\i=.int .i64 j/\n=.int .i64 (cntG (l.take j) a:Nat)/\Hid (Below w.heap.size w wr/\wr.heap[w.heap.size]?=some (.cells #[.int .i64 kind,.int .i64 v,.int .i64 k,.slice u.a l.length u.cap] 39 (0,0)))) (fun _ i _=>l.length - (intOf i).toNat)
   case atStart=>exact ⟨0,Nat.zero_le _,rfl,rfl,Lh HB.out⟩
   case round =>
    obtain ⟨j,hj,rfl,rfl,HR⟩:=hrel
    have hcl:cntG (l.take j) a<=2000000:=by have:=cntG_le a (l.take j);rw [List.length_take] at this;omega
    by_cases hlt:j<l.length
    ·obtain ⟨hua,hub⟩:=HSA.out (by omega)
     obtain ⟨k0,k1,k2,ta,tn,tcap,hc,hd⟩:=HTR.out j hlt
     obtain ⟨e0,e1,e2,e3⟩:=(hc.agree (agree_of_below HR.out.1) hub).four
     have HC:=Lh (fun (W:World) (hW:Below wr.heap.size wr W)=>HIH.out j hlt W (HR.out.1.trans (hW.mono HR.out.1.size)) _ (DAt.mono (fun q (hq:q<w.heap.size)=>by have:=HR.out.1.size;have:=hW.size;omega) _ _ (DAt.agree (agree_of_below (HR.out.1.trans (hW.mono HR.out.1.size))) _ _ hd)))
     have HCT:=Lh (cntG_take a l j hlt)
     have hbl:u.b<wr.heap.size:=by have:=HR.out.1.size;omega
     rw [hua]
     have HUA:=Lh hua
     clear hua
     generalize valG l[j] a=va at HC HCT
     generalize cntG (l.take j) a=cn at HCT hcl ⊢
     clear hc hd
     go_wp2_with fail
     refine (HC.out _ ((Below.refl _ _).alloc (Nat.le_refl _) _)).mono ?_
     rintro e w2 ⟨rfl,hb2⟩
     have hbw:=((Below.refl wr.heap.size wr).alloc (Nat.le_refl _) _).trans (hb2.mono (by simp))
     have H2:=Lh (aI (HR.out.1.trans (hbw.mono HR.out.1.size)) ((hbw.block _ (gS HR.out.2).1).trans HR.out.2))
     clear hb2 hbw e0 e1 e2 e3
     cases va
     ·go_wp2_with fail
      go_roundw
      case measure=>simp [intOf];omega
      case rel=>exact ⟨j+1,by omega,by go_num,by rw [HCT.out];simp,Lh (by have h:=H2.out;rw [HUA.out] at h;exact h)⟩
     ·go_wp2_with fail
      go_roundw
      case measure=>simp [intOf];omega
      case rel=>exact ⟨j+1,by omega,by go_num,by rw [HCT.out];go_num,Lh (by have h:=H2.out;rw [HUA.out] at h;exact h)⟩
    ·have hjl:j=l.length:=by omega
     subst hjl
     rw [List.take_length] at hcl ⊢
     have e0:wr.cell? ⟨w.heap.size,0,none⟩=some (.int .i64 kind):=cH HR.out.2 rfl
     have e2:wr.cell? ⟨w.heap.size,2,none⟩=some (.int .i64 k):=cH HR.out.2 rfl
     have e3:wr.cell? ⟨w.heap.size,3,none⟩=some (.slice u.a l.length u.cap):=cH HR.out.2 rfl
     have hnl:decide ((l.length:Int)<(l.length:Int))=false:=by simp
     have H2:=Lh HR.out.1
     clear HR hlt hj
     generalize cntG l a=cn at HE hcl ⊢
     by_cases h4:kind=4
     ·have HE2:Hid (res=((cn:Int)==(l.length:Int))):=Lh (by rw [HE.out,if_pos h4,Bool.eq_iff_iff];simp only [decide_eq_true_eq,beq_iff_eq];omega)
      clear HE HV
      subst h4
      go_wp2_with fail
      go_ret
      exact ⟨ret_bool (by rw [HE2.out]),H2.out⟩
     by_cases h5:kind=5
     ·have HE2:Hid (res=decide (0<(cn:Int))):=Lh (by rw [HE.out,if_neg h4,if_pos h5,Bool.eq_iff_iff];simp only [decide_eq_true_eq];omega)
      clear HE HV
      subst h5
      go_wp2_with fail
      go_ret
      exact ⟨ret_bool (by rw [HE2.out];first | rfl | simp),H2.out⟩
     have d4:(kind==4)=false:=by simpa using h4
     have d5:(kind==5)=false:=by simpa using h5
     have HE2:=Lh (HE.out.trans (by rw [if_neg h4,if_neg h5]))
     clear h4 h5
     go_wp2_with fail
     go_ret
     exact ⟨ret_bool (by rw [HE2.out]),H2.out⟩
end Go.Proofs.YtjjkfgjnadaheaaGreatDoor
/- The reference's Same and SameAll on equal ground formulas. (written by tools/gen_gsame.py) -/
namespace Go.Proofs.YtjjkfgjnadaheaaGreatDoor
open Go.RowKit Go.Chalk
attribute [local go_sem] Oper.semAt_some
theorem gsameall_of (l:List Tr) (x y:SlA) (w:World) (hx:SlIn w (·<w.heap.size) (l.map Tr.toD) x) (hy:SlIn w (·<w.heap.size) (l.map Tr.toD) y) (hl:l.length<=2000000)
  (H:∀ (j:Nat) (hj:j<l.length) (W:World) (cs ds:List Value),Below w.heap.size w W->DAt W (·<W.heap.size) l[j].toD cs->DAt W (·<W.heap.size) l[j].toD ds->Calls Tryz.prog 14 #[.agg cs.toArray,.agg ds.toArray] W fun e W'=>e=.returned (.bool true)/\Below W.heap.size W W') :
  Calls Tryz.prog 18 #[.slice x.a l.length x.cap,.slice y.a l.length y.cap] w fun e w'=>e=.returned (.bool true)/\Below w.heap.size w w':=by
 have HH:=Lh H
 have HX:=Lh (fun (j:Nat) (hj:j<l.length)=>hx.tre j hj)
 have HY:=Lh (fun (j:Nat) (hj:j<l.length)=>hy.tre j hj)
 have HXA:Hid (0<l.length->x.a=some ⟨x.b,x.o,none⟩/\x.b<w.heap.size):=Lh (fun h=>hx.at_ (by simpa using h))
 have HYA:Hid (0<l.length->y.a=some ⟨y.b,y.o,none⟩/\y.b<w.heap.size):=Lh (fun h=>hy.at_ (by simpa using h))
 clear H hx hy
 have z1:((l.length:Int) != (l.length:Int))=false:=by simp
 go_enter Tryz.func18,Tryz.ntmps18
 go_wp2_with fail
 go_loopw [13] (fun i wr=>∃ j:Nat,j<=l.length/\i=.int .i64 j/\Hid (Below w.heap.size w wr)) (fun i _=>l.length - (intOf i).toNat)
 case atStart=>exact ⟨0,Nat.zero_le _,rfl,Lh (Below.refl _ _)⟩
 case round =>
  obtain ⟨j,hj,rfl,HR⟩:=hrel
  by_cases hlt:j<l.length
  ·obtain ⟨hxa,hxb⟩:=HXA.out (by omega)
   obtain ⟨hya,hyb⟩:=HYA.out (by omega)
   obtain ⟨k0,k1,k2,ta,tn,tcap,hc,hd⟩:=HX.out j hlt
   obtain ⟨l0,l1,l2,ra,rn,rcap,hc',hd'⟩:=HY.out j hlt
   have HKS:Hid (∀ w',Below wr.heap.size wr w'->w'.cell? ⟨x.b,x.o+j*4,none⟩=some (.int .i64 k0)/\w'.cell? ⟨x.b,x.o+j*4+1,none⟩=some (.int .i64 k1)/\w'.cell? ⟨x.b,x.o+j*4+2,none⟩=some (.int .i64 k2)/\w'.cell? ⟨x.b,x.o+j*4+3,none⟩=some (.slice ta tn tcap)/\w'.cell? ⟨y.b,y.o+j*4,none⟩=some (.int .i64 l0)/\w'.cell? ⟨y.b,y.o+j*4+1,none⟩=some (.int .i64 l1)/\w'.cell? ⟨y.b,y.o+j*4+2,none⟩=some (.int .i64 l2)/\w'.cell? ⟨y.b,y.o+j*4+3,none⟩=some (.slice ra rn rcap)):=Lh (fun w' hW=>by
    have hb:=HR.out.trans (hW.mono HR.out.size)
    obtain ⟨e0,e1,e2,e3⟩:=(hc.agree (agree_of_below hb) hxb).four
    obtain ⟨g0,g1,g2,g3⟩:=(hc'.agree (agree_of_below hb) hyb).four
    exact ⟨e0,e1,e2,e3,g0,g1,g2,g3⟩)
   have hbr:Below w.heap.size w wr.drew:=HR.out.drew
   have hmo:∀ (t:Tr) (cs:List Value),DAt w (fun q=>q<w.heap.size) t.toD cs->DAt wr.drew (fun q=>q<wr.drew.heap.size) t.toD cs:=fun t cs h=>DAt.mono (fun q (hq:q<w.heap.size)=>by have:=hbr.size;omega) _ _ (DAt.agree (agree_of_below hbr) _ _ h)
   have HC:=Lh (HH.out j hlt wr.drew _ _ hbr (hmo _ _ hd) (hmo _ _ hd'))
   have i1:(0:Int)<=(j:Int):=by omega
   have i2:(j:Int)<(l.length:Int):=by omega
   have HUA:=Lh (aI hxa hya)
   rw [hxa,hya]
   clear hc hc' hd hd' hmo hbr hxa hya hxb hyb
   go_wp2_with fail
   refine wp_region_noPanic ?_
   refine wp_region_U 99 (S:=fun w'=>w'.cell? ⟨x.b,x.o+j*4,none⟩=some (.int .i64 k0)/\w'.cell? ⟨x.b,x.o+j*4+1,none⟩=some (.int .i64 k1)/\w'.cell? ⟨x.b,x.o+j*4+2,none⟩=some (.int .i64 k2)/\w'.cell? ⟨x.b,x.o+j*4+3,none⟩=some (.slice ta tn tcap)/\w'.cell? ⟨y.b,y.o+j*4,none⟩=some (.int .i64 l0)/\w'.cell? ⟨y.b,y.o+j*4+1,none⟩=some (.int .i64 l1)/\w'.cell? ⟨y.b,y.o+j*4+2,none⟩=some (.int .i64 l2)/\w'.cell? ⟨y.b,y.o+j*4+3,none⟩=some (.slice ra rn rcap)) (by kernel_rfl) (HKS.out _ (Below.refl _ _).drew) (fun hHeld=>?_)
   refine tkU (i:=0) rfl hHeld ?_
   try simp only [Act.put,ub1,ub2,ub3]
   refine tkU (i:=1) rfl hHeld ?_
   try simp only [Act.put,ub1,ub2,ub3]
   refine tkU (i:=2) rfl hHeld ?_
   try simp only [Act.put,ub1,ub2,ub3]
   refine tkU (i:=3) rfl hHeld ?_
   try simp only [Act.put,ub1,ub2,ub3]
   refine tkU (i:=4) rfl hHeld ?_
   try simp only [Act.put,ub1,ub2,ub3]
   refine tkU (i:=5) rfl hHeld ?_
   try simp only [Act.put,ub1,ub2,ub3]
   refine tkU (i:=6) rfl hHeld ?_
   try simp only [Act.put,ub1,ub2,ub3]
   refine tkU (i:=7) rfl hHeld ?_
   try simp only [Act.put,ub1,ub2,ub3]
   refine ready_U (rs:=[8]) (by kernel_rfl) (by simp) ?_
   refine cons_U rfl (fun K hK=>?_) nil_U
   go_simp
   go_at_call 14
   refine HC.out.mono ?_
   rintro e w2 ⟨rfl,hb⟩
   have K2:=Lh (Below.trans (Below.refl wr.heap.size wr).drew (hb.mono (Nat.le_refl _)))
   clear hb
   go_simp
   refine hK.out _ _ ?_ (fun hHeld2=>?_)
   ·exact HKS.out _ K2.out
   clear hK K hHeld
   have hHeld:=hHeld2
   clear hHeld2
   try simp only [Act.put,ub1,ub2,ub3]
   refine tkU (i:=9) rfl hHeld ?_
   try simp only [Act.put,ub1,ub2,ub3]
   refine done_U (by kernel_rfl) ?_ _
   refine NoPanic.normal ?_
   go_wp2_with fail
   go_roundw
   case measure=>simp [intOf];omega
   case rel=>exact ⟨j+1,by omega,by go_num,Lh (HR.out.trans (K2.out.mono HR.out.size))⟩
  ·have hjl:j=l.length:=by omega
   subst hjl
   have hnl:decide ((l.length:Int)<(l.length:Int))=false:=by simp
   have H2:=Lh HR.out
   clear HR hlt hj
   go_wp2_with fail
   go_ret
   exact ⟨rfl,H2.out⟩
theorem gsame_any (m:Nat):∀ (t:Tr) (cs ds:List Value) (w:World),t.size<=m->t.size<=2000000->DAt w (·<w.heap.size) t.toD cs->DAt w (·<w.heap.size) t.toD ds ->
  Calls Tryz.prog 14 #[.agg cs.toArray,.agg ds.toArray] w fun e w'=>e=.returned (.bool true)/\Below w.heap.size w w':=by
 induction m with
 | zero=>intro t _ _ _ h;have:=size_pos t;omega
 | succ m ih =>
  rintro ⟨kind,v,k,l⟩ cs ds w hm hsz hc hd
  obtain ⟨x,rfl,_,_,_,hx⟩:=Tr.parts hc
  obtain ⟨y,rfl,_,_,_,hy⟩:=Tr.parts hd
  rw [Tr.size_mk] at hm hsz
  have hll:=length_le_sizes l
  obtain ⟨W0,hW0⟩:∃ W0,W0=(w.alloc (.cells #[.int .i64 kind,.int .i64 v,.int .i64 k,.slice x.a l.length x.cap] 39)).alloc (.cells #[.int .i64 kind,.int .i64 v,.int .i64 k,.slice y.a l.length y.cap] 39):=⟨_,rfl⟩
  have hb0:Below w.heap.size w W0:=by rw [hW0];exact ((Below.refl _ _).alloc (Nat.le_refl _) _).alloc (by simp) _
  have HC:=Lh (gsameall_of l x y W0 (hx.later hb0 hb0.size) (hy.later hb0 hb0.size) (by omega) (fun j hj W cs ds hb h1 h2=>ih l[j] cs ds W (by have:=size_le_sizes l j hj;omega) (by have:=size_le_sizes l j hj;omega) h1 h2))
  have HB:=Lh hb0
  have HW0:=Lh hW0.symm
  have z1:(kind==kind)=true:=by simp
  have z2:(v==v)=true:=by simp
  have z3:(k==k)=true:=by simp
  clear ih hc hd hx hy hm hsz hll hb0 hW0
  go_enter Tryz.func14,Tryz.ntmps14
  go_wp2_with fail
  rw [HW0.out]
  refine HC.out.mono ?_
  rintro e w1 ⟨rfl,hb1⟩
  have H1:=Lh (HB.out.trans (hb1.mono HB.out.size))
  clear hb1
  go_wp2_with fail
  go_ret
  exact ⟨rfl,H1.out⟩
end Go.Proofs.YtjjkfgjnadaheaaGreatDoor
