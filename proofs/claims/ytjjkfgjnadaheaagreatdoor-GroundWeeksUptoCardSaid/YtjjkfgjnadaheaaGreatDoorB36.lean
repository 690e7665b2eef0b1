/- Joined texts: GRows, GEachP, GEachQ, GKids. -/
import Derived.Test.YtjjkfgjnadaheaaGreatDoorB35
import Derived.Deep.RegionHeld3
import Derived.Test.YtjjkfgjnadaheaaGreatDoorB15
import Derived.Test.YtjjkfgjnadaheaaGreatDoorB22
import Derived.Stop.RegionWithIn
import Derived.Test.YtjjkfgjnadaheaaGreatDoorB33
import Derived.Test.YtjjkfgjnadaheaaGreatDoorB17
import Derived.Deep.AppendLies
set_option linter.unusedVariables false
set_option linter.unusedSimpArgs false
set_option maxHeartbeats 4000000
set_option maxRecDepth 100000

/- ground's maker: the tuples of a list of binds. -/
namespace Go.Proofs.YtjjkfgjnadaheaaGreatDoor
open Go.RowKit Go.Chalk
attribute [local go_sem] Oper.semAt_some
structure RowsIn (s:Schl) (x:SchA) (l:List Bnd) (ya:SlA) (F:Nat->Prop) (lb mp mb:Nat) (W:World):Prop where
 sch:SchIn W F s x
 bnds:SlIn W F (l.map Bnd.toD) ya
 lbox:W.heap[lb]?=some (.cells #[.slice ya.a l.length ya.cap] 31 (0,0))
 mbox:W.heap[mp]?=some (.cells #[.pointer (some ⟨mb,0,none⟩)] 83 (0,0))
theorem RowsIn.agree {s:Schl} {x:SchA} {l:List Bnd} {ya:SlA} {F:Nat->Prop} {lb mp mb:Nat} {W W':World} (h:RowsIn s x l ya F lb mp mb W) (ha:Agree (fun k=>F k∨k=lb∨k=mp) W W'):RowsIn s x l ya F lb mp mb W' :=
 ⟨h.sch.agree (ha.mono (fun k hk=>.inl hk)),h.bnds.agree (ha.mono (fun k hk=>.inl hk)),(ha lb (.inr (.inl rfl))).trans h.lbox,(ha mp (.inr (.inr rfl))).trans h.mbox⟩

theorem rows1_iter (s:Schl) (x:SchA) (l:List Bnd) (ya:SlA) (w:World) (lb mp mb:Nat) (F:Nat->Prop) (hI:ItoaAt) (hsm:SchSmall s) (hr:RowsIn s x l ya F lb mp mb w) (hmax:l.length<=2000000) :
  IterP Tryz.prog 207 #[.pointer (some ⟨lb,0,none⟩),.pointer (some ⟨mp,0,none⟩)] (tuplesF (sizesF s l)).length 1 (tupE (sizesF s l)) (fun W=>∃ left,MkB W mb s x left) (fun k=>F k∨k=lb∨k=mp) w:=by
 intro lp J Jx Jp T W hAg hD hT hJ hJx hKw hY h0
 have hrW:=hr.agree hAg
 have hsz:(sizesF s l).length=l.length:=by simp [sizesF]
 have hszm:∀ k∈sizesF s l,k<=2000000:=fun k hk=>by
  obtain ⟨b,_,rfl⟩:=List.mem_map.1 hk
  have h1:=hsm.slots;have h2:=hsm.rooms;have h3:=hsm.people;have h4:=hsm.groups;have h5:=hsm.lessons;rw [schCount_eq];repeat' split
  all_goals omega
 have HY:=Lh hY
 have HJ:=Lh hJ
 have HJX:=Lh hJx
 have HKW:=Lh hKw
 have HD:=Lh hD
 have HT:=Lh hT
 have HR:=Lh hrW
 have H0:=Lh h0
 have HZ:=Lh hszm
 have HI:=Lh (aI hI (aI hsm hsz))
 have hmk:=make_ints l.length hmax
 -- what school.Count says wherever the iterator stands
 have hCT:∀ (i:Nat) (hi:i<l.length) (W1:World),Agree (fun k=>F k∨k=lb∨k=mp) W W1->W.heap.size<=W1.heap.size->Calls Tryz.prog 98 #[.agg (x.cells s).toArray,.int .i64 l[i].sort] W1 fun e w'=>e=.returned (.int .i64 ((sizesF s l)[i]'(by rw [hsz];exact hi):Nat))/\Below W1.heap.size W1 w':=fun i hi W1 ha hz=>by
  have:=count_any s x l[i].sort W1 hI ((hrW.agree ha).sch.mono (fun k hk=>by have:=(hD k (.inl hk)).1;omega)) hsm
  simpa [sizesF] using this
 have HCT:=Lh hCT
 simp only [SchA.cells,SlA.val] at HCT
 clear hY hJ hJx hKw hD hT hAg hrW hr h0 hszm hCT hI hsm
 show Calls Tryz.prog 207 #[.func (.yield lp) #[] #[],.pointer (some ⟨lb,0,none⟩),.pointer (some ⟨mp,0,none⟩)] W _
 refine (callsIn_wide (n:=0)).1 (callsIn_of_wp Tryz.func207 rfl trivial ?_ rfl)
 simp only [Tryz.ntmps207,List.size_toArray,List.length_cons,List.length_nil,Nat.reduceAdd,Nat.reduceSub,Array.replicate_succ,Array.replicate_zero,List.push_toArray,List.append_toArray,List.nil_append,List.cons_append]
 have q1:W.cell? ⟨lb,0,none⟩=some (.slice ya.a l.length ya.cap):=cH HR.out.lbox rfl
 have hlb:lb<W.heap.size:=(HD.out lb (.inr (.inl rfl))).1
 have hnb:Below W.heap.size W (W.alloc (.cells ((List.replicate l.length 0).map (fun (n:Nat)=>Value.int .i64 n)).toArray 3)):=(Below.refl _ _).alloc (Nat.le_refl _) _
 have R0:TuB 3 J T T W (W.alloc (.cells ((List.replicate l.length 0).map (fun (n:Nat)=>Value.int .i64 n)).toArray 3)) 0 W.heap.size (List.replicate l.length 0) :=
  ⟨Ext.refl _ _ _,Chalk.Mod.of_below hnb,HJ.out _ _ _ _ _ H0.out (Chalk.Mod.of_below (S:=fun _=>False) hnb) (fun _ h=>h.elim),fun h=>by have:=HT.out _ h;omega,Nat.le_refl _,boxed (B:=W.heap.size+1) (Below.refl _ _) (by omega)⟩
 have HR0:=Lh R0
 clear hnb R0 H0
 gi_wp2_with fail
 gi_loopg [13] l.length (fun k v wr=>∃ j:Nat,k+j=l.length/\v=.int .i64 j/\Hid (TuB 3 J T T W wr 0 W.heap.size (List.replicate l.length 0))/\Hid (∀ q (h:q<(sizesF s l).length),q<j->0<(sizesF s l)[q]))
 case atStart=>exact ⟨0,by omega,rfl,Lh (by have:=HR0.out;simpa using this),Lh (fun q h hq=>by omega)⟩
 case round =>
  obtain ⟨j,hkj,rfl,HB,HP⟩:=hrel
  clear HR0 q1
  have hA:=HB.out.mod.agree HD.out
  have hRR:=HR.out.agree hA
  have hzz:=HB.out.mod.size
  by_cases hlt:j<l.length
  ·obtain ⟨lf,hmB⟩:=HKW.out _ _ _ HB.out.inv
   obtain ⟨m0,m1,m2,m3,m4,_,_⟩:=hmB.cells
   have hmlt:=hmB.lt
   have hp:wr.cell? ⟨mp,0,none⟩=some (.pointer (some ⟨mb,0,none⟩)):=cH hRR.mbox rfl
   have hplt:mp<wr.heap.size:=(gS hRR.mbox).1
   obtain ⟨g1,_,_,g4,_⟩:=hRR.bnds.flat Bnd.flatT
   obtain ⟨hxa,hFb⟩:=g1 (by omega)
   obtain ⟨e0,e1⟩:=g4.two j hlt rfl
   have hsj:j<(sizesF s l).length:=by have:=HI.out.2.2;omega
   have hb1:Below wr.heap.size wr (wr.alloc (.cells #[.string ⟨l[j].name.toArray⟩,.int .i64 l[j].sort] 149)).drew:=((Below.refl _ _).alloc (Nat.le_refl _) _).drew
   have hct:=HCT.out j hlt (wr.alloc (.cells #[.string ⟨l[j].name.toArray⟩,.int .i64 l[j].sort] 149)).drew (hA.trans ((agree_of_below hb1).mono (fun k hk=>by have:=(HD.out k hk).1;omega))) (by have:=hb1.size;omega)
   have HSJ:Hid (∃ c,(sizesF s l)[j]=c):=Lh ⟨_,rfl⟩
   have HB1:=Lh hb1
   have HC:=Lh hct
   have HXA:=Lh hxa
   rw [hxa]
   have hjl:(j:Int)<(l.length:Int):=by omega
   clear hA hRR hmB g1 g4 hFb hct hb1 hxa HSJ
   obtain ⟨c,hc⟩:∃ c,(sizesF s l)[j]=c:=⟨_,rfl⟩
   rw [hc] at HC
   have HSJ:=Lh hc
   clear hc
   generalize l[j]=be at e0 e1 HB1 HC
   obtain ⟨nm,so⟩:=be
   simp only at e0 e1 HB1 HC
   rcases Nat.eq_zero_or_pos c with h0 | h0
   ·subst h0
    gi_wp2_with fail
    gi_region_with (first | (refine ⟨trivial,rfl,(callsIn_wide.2 HC.out).mono ?_⟩;rintro e w' ⟨rfl,hb⟩;have HW:=Lh hb;clear hb) | fail)
    all_goals
     gi_wp2_with fail
     go_end0
     have hbw:Below wr.heap.size wr w':=HB1.out.trans (HW.out.mono HB1.out.size)
     have R:=HB.out.own HJ.out (Chalk.Mod.of_below hbw) ((hbw.block _ (gS HB.out.box).1).trans HB.out.box)
     refine ⟨T,R.ext,R.mod,.inl ⟨⟨_,rfl⟩,.inl ?_⟩⟩
     have hm0:(tuplesF (sizesF s l)).length=0:=by rw [tuples_length];exact prod_zero _ (by rw [<- HSJ.out];exact List.getElem_mem _)
     rw [hm0];exact R.inv
   ·have hne:((c:Int)==0)=false:=by simp;omega
    gi_wp2_with fail
    gi_region_with (first | (refine ⟨trivial,rfl,(callsIn_wide.2 HC.out).mono ?_⟩;rintro e w' ⟨rfl,hb⟩;have HW:=Lh hb;clear hb) | fail)
    all_goals
     gi_wp2_with fail
     have hbw:Below wr.heap.size wr w':=HB1.out.trans (HW.out.mono HB1.out.size)
     have R:=Lh (HB.out.own HJ.out (Chalk.Mod.of_below hbw) ((hbw.block _ (gS HB.out.box).1).trans HB.out.box))
     have HP2:Hid (∀ q (h:q<(sizesF s l).length),q<j+1->0<(sizesF s l)[q]):=Lh (fun q h hq=>by
      by_cases hqj:q=j
      ·subst hqj;rw [HSJ.out];exact h0
      ·exact HP.out q h (by omega))
     clear hbw
     rw [<- HXA.out]
     gi_roundg (l.length - (j+1))
     case measure=>omega
     case rel=>exact ⟨j+1,by omega,by go_num,R,HP2⟩
  ·have hpos:∀ k∈sizesF s l,0<k:=fun k hk=>by
    obtain ⟨q,hq,rfl⟩:=List.mem_iff_getElem.1 hk
    exact HP.out q hq (by have:=HI.out.2.2;omega)
   have HPS:=Lh hpos
   have HR0:Hid (TuB 3 J T T W wr 0 W.heap.size (List.replicate l.length 0)/\(tuplesF (sizesF s l))[0]?=some (List.replicate l.length 0)):=Lh ⟨HB.out,by have:=tuples_first _ hpos;rwa [HI.out.2.2] at this⟩
   clear hA hRR hpos HP hzz HB hkj
   obtain ⟨wo,rfl⟩:∃ wo,wo=wr:=⟨wr,rfl⟩
   gi_wp2_with fail
   gi_loopg [] (tuplesF (sizesF s l)).length (fun k wr=>∃ (j:Nat) (T1:Nat->Prop) (ts:List Nat),k+j=(tuplesF (sizesF s l)).length/\Hid (TuB 3 J T T1 W wr j W.heap.size ts/\(tuplesF (sizesF s l))[j]?=some ts))
   case atStart=>exact ⟨0,T,List.replicate l.length 0,by omega,HR0⟩
   case round =>
    obtain ⟨j,T1,ts,hkj,HR2⟩:=hrel
    clear HR0
    obtain ⟨hjl,htj⟩:=List.getElem?_eq_some_iff.1 HR2.out.2
    have hmem:=(tuples_mem (sizesF s l) ts).1 (htj ▸ List.getElem_mem hjl)
    have hle:∀ k∈ts,k<=2000000:=fun k hk=>by
     obtain ⟨i,hi,rfl⟩:=List.mem_iff_getElem.1 hk
     have:=hmem.2 i (by have:=hmem.1;omega) (by omega)
     have:=HZ.out _ (List.getElem_mem (show i<(sizesF s l).length by have:=hmem.1;omega))
     omega
    have htl:ts.length=l.length:=hmem.1.trans HI.out.2.2
    have hsl:=HR2.out.1.box.sl (F:=(·<wr.heap.size)) (gS HR2.out.1.box).1 (by unfold maxLen;omega) hle
    have hcl:=clone_Int (nats ts) _ wr hsl (by rw [nats_length];omega)
    have HCL:=Lh hcl
    have HMM:=Lh (aI hmem hle)
    have HJL:=Lh (aI hjl hkj)
    simp only [SlA.val,nats_length,htl] at HCL
    have HTL:=Lh htl
    clear hmem hle hsl hcl hjl htj hkj htl
    gi_wp2_with fail
    refine ⟨trivial,rfl,(callsIn_wide.2 HCL.out).mono ?_⟩
    rintro e w1 ⟨v,r,rfl,hown,hnew,hb⟩
    obtain ⟨xc,hv,hxc⟩:=hown.sl (G:=fun k=>r=some k) (fun _ h=>h.elim) (fun k hk=>hk) (by rw [widths_map Int.flatT];simp)
    simp only [List.length_map,nats_length,HTL.out] at hv
    subst hv
    have hSS:∀ k,r=some k->W.heap.size<=k/\k<w1.heap.size/\¬ T1 k:=fun k hk=>by
     have h1:=hnew k hk
     have h2:=HR2.out.1.mod.size
     exact ⟨by omega,hown.row_lt hk,fun h=>by have:=HR2.out.1.lt HT.out k h;omega⟩
    have hS2:∀ k,r=some k->W.heap.size<=k/\k<w1.heap.size/\k ≠ W.heap.size:=fun k hk=>by
     have h1:=hnew k hk
     have h2:=(gS HR2.out.1.box).1
     exact ⟨(hSS k hk).1,(hSS k hk).2.1,by omega⟩
    have R1:TuB 3 J T T1 W w1 j W.heap.size ts:=HR2.out.1.own HJ.out (Chalk.Mod.of_below hb) ((hb.block _ (gS HR2.out.1.box).1).trans HR2.out.1.box)
    have hE:tupE (sizesF s l) j #[.slice xc.a l.length xc.cap] (fun k=>r=some k) w1:=⟨xc,by rw [HI.out.2.2],by rw [HR2.out.2];exact hxc⟩
    obtain ⟨fn,tmps,assign,body,hy,hRd⟩:=HY.out j T1 w1 #[.slice xc.a l.length xc.cap] (fun k=>r=some k) HJL.out.1 R1.inv (R1.lt HT.out) hSS hE rfl
    have HRR:=Lh hRd
    have HR1:=Lh (aI R1 hS2)
    have hnx:=tuples_next (sizesF s l) HPS.out j ts HR2.out.2
    have HNX:=Lh hnx
    clear hRd R1 hSS hS2 hE hb hnew hown hxc hnx
    simp only [SlA.val]
    gi_wp2_with fail
    refine ⟨rfl,HRR.out.mono ?_⟩
    rintro e W2 ⟨T2,he,hm,⟨rfl,hj2⟩ | ⟨rfl,hj2⟩ | ⟨ch,rfl,hjp⟩⟩
    rotate_left
    ·have HR3:=Lh (HR1.out.1.round HR1.out.2 he hm hj2)
     clear he hm hj2 hy
     gi_wp2_with fail
     go_end0
     exact ⟨T2,HR3.out.ext,HR3.out.mod,.inl ⟨⟨_,rfl⟩,.inr ⟨j+1,by omega,by have:=HJL.out.1;omega,HR3.out.inv⟩⟩⟩
    ·have HR3:=Lh (HR1.out.1.round (J2:=fun _=>Jp ch) (j2:=0) HR1.out.2 he hm hjp)
     clear he hm hjp hy
     exact ⟨rfl,T2,HR3.out.ext,HR3.out.mod,.inr ⟨ch,rfl,HR3.out.inv⟩⟩
    ·have HR3:=Lh (HR1.out.1.round HR1.out.2 he hm hj2)
     clear he hm hj2 hy HRR
     gi_wp2_with fail
     gi_loopg [7] l.length (fun k s7 wr2=>s7=.int .i64 ((k:Int) - 1)/\k<=l.length/\Hid (TuB 3 J T T2 W wr2 (j+1) W.heap.size (ts.take k++List.replicate (l.length - k) 0))/\Hid (∀ (q:Nat) (h:q<(sizesF s l).length) (h':q<ts.length),k<=q->ts[q]+1=(sizesF s l)[q]))
     case atStart =>
      refine ⟨by go_num,Nat.le_refl _,Lh ?_,Lh (fun q h h' hk=>by have:=HTL.out;omega)⟩
      rw [Nat.sub_self,List.replicate_zero,List.append_nil,List.take_of_length_le (by have:=HTL.out;omega)]
      exact HR3.out
     case round =>
      obtain ⟨rfl,hkn,HI3,HQ3⟩:=hrel
      cases gk with
      | zero =>
       have hnone:nextT (sizesF s l) ts=none:=nextT_none (sizesF s l) ts (HTL.out.trans HI.out.2.2.symm).symm (fun p h h'=>HQ3.out p h h' (Nat.zero_le _))
       have HE:Hid (j+1=(tuplesF (sizesF s l)).length):=Lh (by
        have h1:=HNX.out
        rw [hnone] at h1
        have:=List.getElem?_eq_none_iff.1 h1
        have:=HJL.out.1
        omega)
       clear hnone
       gi_wp2_with fail
       go_end0
       refine ⟨T2,HI3.out.ext,HI3.out.mod,.inl ⟨⟨_,rfl⟩,.inl ?_⟩⟩
       rw [<- HE.out];exact HI3.out.inv
      | succ q =>
       have hqi:(((q+1:Nat):Int) - 1)=(q:Int):=by omega
       rw [hqi]
       have hqn:(q:Int)<(l.length:Int):=by omega
       have hqs:q<(sizesF s l).length:=by have:=HI.out.2.2;omega
       have htq:q<ts.length:=by have:=HTL.out;omega
       have hlen:(ts.take (q+1)++List.replicate (l.length - (q+1)) 0).length=l.length:=by have:=HTL.out;simp;omega
       have c0:wr.cell? ⟨W.heap.size,q,none⟩=some (.int .i64 (ts[q]:Nat)):=by
        have:=HI3.out.box.cell q (by rw [hlen];omega)
        rw [tup_get HTL.out (by omega)] at this
        exact this
       have hfz:wr.frozen? ⟨W.heap.size,q,none⟩=false:=fH HI3.out.box
       have hblt:W.heap.size<wr.heap.size:=(gS HI3.out.box).1
       have hub:ts[q]<=2000000:=HMM.out.2 _ (List.getElem_mem htq)
       have hA:=HI3.out.mod.agree HD.out
       have hRR:=HR.out.agree hA
       obtain ⟨lf,hmB⟩:=HKW.out _ _ _ HI3.out.inv
       obtain ⟨m0,m1,m2,m3,m4,_,_⟩:=hmB.cells
       have hmlt:=hmB.lt
       have hp:wr.cell? ⟨mp,0,none⟩=some (.pointer (some ⟨mb,0,none⟩)):=cH hRR.mbox rfl
       have hlx:wr.cell? ⟨lb,0,none⟩=some (.slice ya.a l.length ya.cap):=cH hRR.lbox rfl
       have hpne:mp ≠ W.heap.size:=by have:=(HD.out mp (.inr (.inr rfl))).1;omega
       have hlne:lb ≠ W.heap.size:=by have:=(HD.out lb (.inr (.inl rfl))).1;omega
       have hmne:mb ≠ W.heap.size:=by
        rintro rfl
        have h1:=hmB
        have h2:=HI3.out.box
        unfold MkB at h1;unfold TB at h2
        rw [h2] at h1
        simp at h1
       obtain ⟨g1,_,_,g4,_⟩:=hRR.bnds.flat Bnd.flatT
       obtain ⟨hxa,hFb⟩:=g1 (by omega)
       have hbne:ya.b ≠ W.heap.size:=by have:=(HD.out _ (.inl hFb)).1;omega
       obtain ⟨e0,e1⟩:=g4.two q (by omega) rfl
       have hlc:=HMM.out.1.2 q htq hqs
       have hxq:=hxa
       rw [hxa] at hlx
       have hylt:ya.b<wr.heap.size:=by have:=(HD.out _ (.inl hFb)).1;have:=HI3.out.mod.size;omega
       have hllt:lb<wr.heap.size:=(gS hRR.lbox).1
       have hplt:mp<wr.heap.size:=(gS hRR.mbox).1
       obtain ⟨u,hu⟩:∃ u,ts[q]=u:=⟨_,rfl⟩
       obtain ⟨c,hc⟩:∃ c,(sizesF s l)[q]=c:=⟨_,rfl⟩
       obtain ⟨be,hbe⟩:∃ be,l[q]'(by omega)=be:=⟨_,rfl⟩
       obtain ⟨Wx,hWx⟩:∃ Wx,wr.setCell ⟨W.heap.size,q,none⟩ (.int .i64 ((u:Int)+1))=Wx:=⟨_,rfl⟩
       have hm1:Chalk.Mod (fun k=>k=W.heap.size) wr Wx:=by rw [<- hWx];exact (Chalk.Mod.refl (fun k=>k=W.heap.size) wr).setCell (p:=⟨W.heap.size,q,none⟩) (fun _=>rfl) _
       have hbx:TB 3 Wx W.heap.size ((ts.take (q+1)++List.replicate (l.length - (q+1)) 0).set q (u+1)):=by rw [<- hWx];exact TB.store (W:=wr) HI3.out.box q (u+1)
       have hct:=HCT.out q (by omega) Wx.drew (hA.trans (hm1.drew.agree (fun k hk=>by have:=(HD.out k hk).1;exact ⟨by omega,by omega⟩))) (by have:=hm1.drew.size;omega)
       have hzx:Wx.heap.size=wr.heap.size:=by rw [<- hWx];simp
       have oth:∀ (b o:Nat) (v:Value),b ≠ W.heap.size->b<wr.heap.size->wr.cell? ⟨b,o,none⟩=some v->∀ W',Below Wx.heap.size Wx W'->W'.cell? ⟨b,o,none⟩=some v:=fun b o v hne hlt h W' hb =>
        (hb.cell (p:=⟨b,o,none⟩) (by show b<_;omega)).trans ((World.cell?_of_block (by rw [<- hWx];exact set_heap_other hne)).trans h)
       have hc9:Wx.cell? ⟨W.heap.size,q,none⟩=some (.int .i64 ((u:Int)+1)):=by
        have h2:=hbx.cell q (by simp;have:=HTL.out;omega)
        simpa using h2
       rw [hbe] at e0 e1 hct
       rw [hc] at hct hlc
       rw [hu] at c0 hub hlc
       have HU:=Lh (aI hu (aI hc (aI hqs htq)))
       clear hu hc hbe g1 g4 hFb hRR hmB hA hqi hlen
       obtain ⟨nm,so⟩:=be
       simp only at e0 e1 hct
       have HX:Hid (∀ w',Below Wx.heap.size Wx w'->w'.cell? ⟨W.heap.size,q,none⟩=some (.int .i64 ((u:Int)+1))/\w'.cell? ⟨mp,0,none⟩=some (.pointer (some ⟨mb,0,none⟩))/\w'.cell? ⟨mb,0,none⟩=some (.slice x.slots.a s.slots.length x.slots.cap)/\w'.cell? ⟨mb,1,none⟩=some (.slice x.rooms.a s.rooms.length x.rooms.cap)/\w'.cell? ⟨mb,2,none⟩=some (.slice x.people.a s.people.length x.people.cap)/\w'.cell? ⟨mb,3,none⟩=some (.slice x.groups.a s.groups.length x.groups.cap)/\w'.cell? ⟨mb,4,none⟩=some (.slice x.lessons.a s.lessons.length x.lessons.cap)/\w'.cell? ⟨lb,0,none⟩=some (.slice (some ⟨ya.b,ya.o,none⟩) l.length ya.cap)/\w'.cell? ⟨ya.b,ya.o+q*2+1,none⟩=some (.int .i64 so)):=Lh (fun w' hb =>
        ⟨(hb.cell (p:=⟨W.heap.size,q,none⟩) (by show W.heap.size<_;omega)).trans hc9,oth mp 0 _ hpne hplt hp w' hb,oth mb 0 _ hmne hmlt m0 w' hb,oth mb 1 _ hmne hmlt m1 w' hb,oth mb 2 _ hmne hmlt m2 w' hb,oth mb 3 _ hmne hmlt m3 w' hb,oth mb 4 _ hmne hmlt m4 w' hb,oth lb 0 _ hlne hllt hlx w' hb,oth ya.b (ya.o+q*2+1) _ hbne hylt e1 w' hb⟩)
       have HN:=Lh (aI hm1 hbx)
       have HC:=Lh hct
       have HXQ:=Lh hxq
       have HBX:=Lh (Below.refl Wx.heap.size Wx).drew
       clear hm1 hbx hct hzx oth hc9 hxq hxa m0 m1 m2 m3 m4 hp hlx e0 e1 hpne hlne hmne hbne hylt hllt hplt hmlt
       by_cases hd:u+1=c
       ·have hcl:¬ ((u:Int)+1<(c:Int)):=by omega
        have HD2:=Lh hd
        clear hd hlc
        gi_wp2_with fail
        try rw [hWx]
        refine wpIn_wide.2 ?_
        go_region_held3 (fun w'=>w'.cell? ⟨W.heap.size,q,none⟩=some (.int .i64 ((u:Int)+1))/\w'.cell? ⟨mp,0,none⟩=some (.pointer (some ⟨mb,0,none⟩))/\w'.cell? ⟨mb,0,none⟩=some (.slice x.slots.a s.slots.length x.slots.cap)/\w'.cell? ⟨mb,1,none⟩=some (.slice x.rooms.a s.rooms.length x.rooms.cap)/\w'.cell? ⟨mb,2,none⟩=some (.slice x.people.a s.people.length x.people.cap)/\w'.cell? ⟨mb,3,none⟩=some (.slice x.groups.a s.groups.length x.groups.cap)/\w'.cell? ⟨mb,4,none⟩=some (.slice x.lessons.a s.lessons.length x.lessons.cap)/\w'.cell? ⟨lb,0,none⟩=some (.slice (some ⟨ya.b,ya.o,none⟩) l.length ya.cap)/\w'.cell? ⟨ya.b,ya.o+q*2+1,none⟩=some (.int .i64 so)) ((refine HX.out _ ?_;first | exact HW.out | exact HBX.out | fail)) (first | (go_at_call 98;refine HC.out.mono ?_;rintro e w' ⟨rfl,hb⟩;have HW:=Lh (HBX.out.trans (hb.mono (Nat.le_refl _)));clear hb) | fail)
        all_goals
         have hbx':=(HW.out.block _ (gS HN.out.2).1).trans HN.out.2
         have hf9:w'.frozen? ⟨W.heap.size,q,none⟩=false:=fH hbx'
         have HBX':=Lh (aI hbx' (HN.out.1.trans (Chalk.Mod.of_below (S:=fun k=>k=W.heap.size) HW.out) (fun _ _ h=>h)))
         clear hbx'
         gi_wp2_with fail
         gi_roundg q
         case measure=>omega
         case rel =>
          refine ⟨by go_num,by omega,Lh ?_,Lh (fun p h h' hqp=>?_)⟩
          ·refine HI3.out.own HJ.out (HBX'.out.2.setCell (p:=⟨W.heap.size,q,none⟩) (fun _=>rfl) _) ?_
           have h1:=TB.store (W:=w') HBX'.out.1 q 0
           rw [List.set_set,tup_zero HTL.out (by omega)] at h1
           exact h1
          ·by_cases hpq:p=q
           ·subst hpq;rw [HU.out.1,HU.out.2.1];exact HD2.out
           ·exact HQ3.out p h h' (by omega)
       ·have hcl:(u:Int)+1<(c:Int):=by omega
        have HD2:=Lh hd
        clear hd hlc
        gi_wp2_with fail
        try rw [hWx]
        refine wpIn_wide.2 ?_
        go_region_held3 (fun w'=>w'.cell? ⟨W.heap.size,q,none⟩=some (.int .i64 ((u:Int)+1))/\w'.cell? ⟨mp,0,none⟩=some (.pointer (some ⟨mb,0,none⟩))/\w'.cell? ⟨mb,0,none⟩=some (.slice x.slots.a s.slots.length x.slots.cap)/\w'.cell? ⟨mb,1,none⟩=some (.slice x.rooms.a s.rooms.length x.rooms.cap)/\w'.cell? ⟨mb,2,none⟩=some (.slice x.people.a s.people.length x.people.cap)/\w'.cell? ⟨mb,3,none⟩=some (.slice x.groups.a s.groups.length x.groups.cap)/\w'.cell? ⟨mb,4,none⟩=some (.slice x.lessons.a s.lessons.length x.lessons.cap)/\w'.cell? ⟨lb,0,none⟩=some (.slice (some ⟨ya.b,ya.o,none⟩) l.length ya.cap)/\w'.cell? ⟨ya.b,ya.o+q*2+1,none⟩=some (.int .i64 so)) ((refine HX.out _ ?_;first | exact HW.out | exact HBX.out | fail)) (first | (go_at_call 98;refine HC.out.mono ?_;rintro e w' ⟨rfl,hb⟩;have HW:=Lh (HBX.out.trans (hb.mono (Nat.le_refl _)));clear hb) | fail)
        all_goals
         have hbx':=(HW.out.block _ (gS HN.out.2).1).trans HN.out.2
         have hf9:w'.frozen? ⟨W.heap.size,q,none⟩=false:=fH hbx'
         have HBX':=Lh (aI hbx' (HN.out.1.trans (Chalk.Mod.of_below (S:=fun k=>k=W.heap.size) HW.out) (fun _ _ h=>h)))
         clear hbx'
         have hnt:=nextT_at (sizesF s l) ts q HU.out.2.2.1 HU.out.2.2.2 (HTL.out.trans HI.out.2.2.symm).symm (fun h=>HD2.out ((congrArg (·+1) HU.out.1).symm.trans (h.trans HU.out.2.1))) (fun p h h' hqp=>HQ3.out p h h' (by omega))
         have HN2:=Lh (HNX.out.trans hnt)
         clear hnt
         gi_wp2_with fail
         gi_roundg ((tuplesF (sizesF s l)).length - (j+1))
         case measure=>have:=HJL.out;omega
         case rel =>
          refine ⟨j+1,T2,ts.take q++[u+1]++List.replicate (l.length - 1 - q) 0,by have:=HJL.out;omega,Lh ⟨?_,?_⟩⟩
          ·refine HI3.out.own HJ.out HBX'.out.2 ?_
           rw [<- tup_up HTL.out (by omega)]
           exact HBX'.out.1
          ·rw [HN2.out,HU.out.1,HTL.out]
theorem rows_any (mb:Nat) (a:Option Addr) (n cap:Nat) (w:World) :
  Calls Tryz.prog 151 #[.pointer (some ⟨mb,0,none⟩),.slice a n cap] w fun e w'=>e=.returned (.func (.func 207) #[] #[.pointer (some ⟨w.heap.size+1,0,none⟩),.pointer (some ⟨w.heap.size,0,none⟩)])/\(w.alloc (.cells #[.pointer (some ⟨mb,0,none⟩)] 83)).alloc (.cells #[.slice a n cap] 31)=w':=by
 have hmf:∀ (fn:Fn) (first cap:Array Value) (w:World),(Instr.makeFunc fn first cap).run Tryz.prog w=.ok (.func fn first cap) w:=fun _ _ _ _=>rfl
 go_enter Tryz.func151,Tryz.ntmps151
 go_wp2_with fail
 go_ret
 exact ⟨rfl,rfl⟩
end Go.Proofs.YtjjkfgjnadaheaaGreatDoor
/- A list in a box grows by an element that is appended as zero and stored behind. No program is named here. -/
namespace Go.Chalk
open Go.RowKit
def put4 (W:World) (g o:Nat) (c0 c1 c2 c3:Value):World:=(((W.setCell ⟨g,o,none⟩ c0).setCell ⟨g,o+1,none⟩ c1).setCell ⟨g,o+2,none⟩ c2).setCell ⟨g,o+3,none⟩ c3
theorem put4_mod (W:World) (g o:Nat) (c0 c1 c2 c3:Value):Mod (fun k=>k=g) W (put4 W g o c0 c1 c2 c3) :=
 ((((Mod.refl (fun k=>k=g) W).setCell (p:=⟨g,o,none⟩) (fun _=>rfl) c0).setCell (p:=⟨g,o+1,none⟩) (fun _=>rfl) c1).setCell (p:=⟨g,o+2,none⟩) (fun _=>rfl) c2).setCell (p:=⟨g,o+3,none⟩) (fun _=>rfl) c3
theorem row_last {w:World} {g cap n:Nat} {e:TypeId} {cs:List Value} {z0 z1 z2 z3:Value} (h:w.ownsRow 0 e 4 (.slice (some ⟨g,0,none⟩) (n+1) cap) (n+1) (cs++[z0,z1,z2,z3])) :
  cs.length=n*4/\∃ cur:Array Value,w.heap[g]?=some (.cells cur e (0,0))/\n+1<=cap/\cap<=maxLen/\cur.size=cap*4/\cur.toList.take ((n+1)*4)=cs++[z0,z1,z2,z3]:=by
 obtain ⟨hl,h | ⟨g',cap',cur,hv,_,hh,h1,h2,h3,h4⟩⟩:=h
 ·cases h.1
 ·cases hv
  exact ⟨by simp at hl;omega,cur,hh,h1,h2,h3,h4⟩
theorem row_cells {w:World} {g cap n:Nat} {e:TypeId} {cs:List Value} {z0 z1 z2 z3:Value} (h:w.ownsRow 0 e 4 (.slice (some ⟨g,0,none⟩) (n+1) cap) (n+1) (cs++[z0,z1,z2,z3])) :
  (w.cell? ⟨g,n*4,none⟩=some z0/\w.cell? ⟨g,n*4+1,none⟩=some z1/\w.cell? ⟨g,n*4+2,none⟩=some z2/\w.cell? ⟨g,n*4+3,none⟩=some z3) /\
  (∀ j,w.frozen? ⟨g,j,none⟩=false)/\g<w.heap.size/\n<cap:=by
 obtain ⟨hl,cur,hh,h1,h2,h3,h4⟩:=row_last h
 have key:∀ j,j<4->cur[n*4+j]?=([z0,z1,z2,z3]:List Value)[j]?:=fun j hj=>by
  have e:=congrArg (fun l:List Value=>l[n*4+j]?) h4
  simp only [List.getElem?_take,if_pos (show n*4+j<(n+1)*4 by omega)] at e
  rw [<- Array.getElem?_toList,e,List.getElem?_append_right (by omega),hl]
  congr 1;omega
 refine ⟨⟨?_,?_,?_,?_⟩,fun j=>fH hh,(gS hh).1,by omega⟩
 ·exact cH hh (by have:=key 0 (by omega);simpa using this)
 ·exact cH hh (by have:=key 1 (by omega);simpa using this)
 ·exact cH hh (by have:=key 2 (by omega);simpa using this)
 ·exact cH hh (by have:=key 3 (by omega);simpa using this)
theorem row_set4 {w:World} {g cap n:Nat} {e:TypeId} {cs:List Value} {z0 z1 z2 z3:Value} (h:w.ownsRow 0 e 4 (.slice (some ⟨g,0,none⟩) (n+1) cap) (n+1) (cs++[z0,z1,z2,z3])) (c0 c1 c2 c3:Value) :
  (put4 w g (n*4) c0 c1 c2 c3).ownsRow 0 e 4 (.slice (some ⟨g,0,none⟩) (n+1) cap) (n+1) (cs++[c0,c1,c2,c3]):=by
 obtain ⟨hl,cur,hh,h1,h2,h3,h4⟩:=row_last h
 have hb:=box_store (i:=n*4+3) c3 (box_store (i:=n*4+2) c2 (box_store (i:=n*4+1) c1 (box_store (i:=n*4) c0 hh)))
 refine ⟨by simp;omega,.inr ⟨g,cap,_,rfl,Nat.zero_le _,hb,h1,h2,by simp [h3],?_⟩⟩
 simp only [Array.toList_setIfInBounds]
 rw [List.take_set,List.take_set,List.take_set,List.take_set,h4]
 rw [List.set_append_right _ _ (by omega),List.set_append_right _ _ (by omega),List.set_append_right _ _ (by omega),List.set_append_right _ _ (by omega)]
 rw [hl,Nat.sub_self,show n*4+1 - n*4=1 by omega,show n*4+2 - n*4=2 by omega,show n*4+3 - n*4=3 by omega]
 rfl
theorem row_kept {w w':World} {g cap n:Nat} {e:TypeId} {cs:List Value} (h:w.ownsRow 0 e 4 (.slice (some ⟨g,0,none⟩) (n+1) cap) (n+1) cs) {S:Nat->Prop} (hm:Mod S w w') (hS:¬ S g):w'.ownsRow 0 e 4 (.slice (some ⟨g,0,none⟩) (n+1) cap) (n+1) cs:=by
 obtain ⟨hl,h | ⟨g',cap',cur,hv,h0,hh,rest⟩⟩:=h
 ·cases h.1
 ·cases hv
  exact ⟨hl,.inr ⟨g,cap,cur,rfl,h0,heap_kept hh hm hS,rest⟩⟩
def BoxMb (W:World) (mb H:Nat) (t e:TypeId) (xs:List D) (T1:Nat->Prop):Prop:=∃ T',(∀ k,T1 k ↔ T' k∨k=mb)/\BoxOwn W H t e 4 H xs T'
theorem BoxMb.mb {W:World} {mb H:Nat} {t e:TypeId} {xs:List D} {T1:Nat->Prop} (h:BoxMb W mb H t e xs T1):T1 mb:=by
 obtain ⟨T',h1,_⟩:=h;exact (h1 _).2 (.inr rfl)
theorem BoxMb.kept {W W':World} {mb H:Nat} {t e:TypeId} {xs:List D} {T1 S:Nat->Prop} (h:BoxMb W mb H t e xs T1) (hm:Mod S W W') (hS:∀ k,S k->¬ T1 k):BoxMb W' mb H t e xs T1:=by
 obtain ⟨T',h1,h2⟩:=h;exact ⟨T',h1,h2.kept hm (fun k hk h=>hS k hk ((h1 k).2 (.inl h)))⟩
theorem each_fin {W wc w7 wf:World} {T1 T':Nat->Prop} {mb H g cap n:Nat} {oa:Option Addr} {ocap:Nat} {r:Option Nat} {xs:List D} {cs tcs:List Value} {t:D} {te tt:TypeId} (hTT:∀ k,T1 k ↔ T' k∨k=mb) (hmbH:mb<H)
  (b2:T' H) (b3:∀ k,r=some k->T' k/\k ≠ H) (b4:∀ k,T' k->H<=k/\k<W.heap.size) (b5:Chalk.Own W (fun k=>T' k/\k ≠ H/\r ≠ some k) te 4 (.slice oa n ocap) r xs) (hcs:DsAt W (fun k=>T' k/\k ≠ H/\r ≠ some k) xs cs)
  (hm:Mod (fun k=>k=mb) W wc) (ht:DAt wc (fun k=>W.heap.size<=k/\k<wc.heap.size) t tcs)
  (hm7:Mod (fun k=>r=some k) wc w7) (hg:r=some g∨g=wc.heap.size) (hg7:g<w7.heap.size) (hf:wf.ownsRow 0 te 4 (.slice (some ⟨g,0,none⟩) (n+1) cap) (n+1) (cs++tcs)) (hxn:xs.length=n)
  (hbox:wf.heap[H]?=some (.cells #[.slice (some ⟨g,0,none⟩) (n+1) cap] tt (0,0))) (hmf:Mod (fun k=>k=g∨k=H) w7 wf) :
  ∃ T2,Ext T1 T2 W wf/\Mod T1 W wf/\BoxMb wf mb H tt te (xs++[t]) T2:=by
 have z1:=hm.size
 have z2:=hm7.size
 have z3:=hmf.size
 have hH:=b4 H b2
 have hgH:g ≠ H:=by
  rcases hg with h | h
  ·exact (b3 g h).2
  ·omega
 have hgw:r=some g∨W.heap.size<=g:=hg.imp id (fun h=>by omega)
 have hgl:H<=g:=by
  rcases hgw with h | h
  ·exact (b4 g (b3 g h).1).1
  ·omega
 have hmW:Mod (fun k=>k=mb∨r=some k∨k=H) W wf:=by
  refine ((hm.mono (T:=fun k=>k=mb∨r=some k∨k=H) (fun _=>.inl)).trans hm7 (fun k _ h=>.inr (.inl h))).trans hmf (fun k hk h=>?_)
  rcases h with h | h
  ·subst h
   rcases hgw with h | h
   ·exact .inr (.inl h)
   ·omega
  ·exact .inr (.inr h)
 have hnew:∀ k,W.heap.size<=k->k<wf.heap.size->k ≠ H:=fun k h _=>by omega
 refine ⟨fun k=>(T' k∨(W.heap.size<=k/\k<wf.heap.size))∨k=mb,fun k hk=>?_,hmW.mono (fun k h=>?_),fun k=>T' k∨(W.heap.size<=k/\k<wf.heap.size),fun _=>Iff.rfl,.slice (some ⟨g,0,none⟩) (n+1) cap,some g,hbox,.inl b2,fun k hk=>?_,fun k hk=>?_,?_⟩
 ·rcases hk with (h | h) | h
  ·exact .inl ((hTT k).2 (.inl h))
  ·exact .inr h
  ·exact .inl ((hTT k).2 (.inr h))
 ·rcases h with h | h | h
  ·exact (hTT k).2 (.inr h)
  ·exact (hTT k).2 (.inl (b3 k h).1)
  ·subst h;exact (hTT _).2 (.inl b2)
 ·cases hk
  refine ⟨?_,hgH⟩
  rcases hgw with h | h
  ·exact .inl (b3 g h).1
  ·exact .inr ⟨h,by omega⟩
 ·rcases hk with h | h
  ·exact ⟨(b4 k h).1,by have:=(b4 k h).2;omega⟩
  ·exact ⟨by omega,h.2⟩
 ·refine ⟨⟨cs++tcs,by rw [List.length_append];simpa [hxn] using hf,DsAt.append ?_ ?_⟩,rfl,fun k hk h=>h.2.2 hk,fun k hk=>?_⟩
  ·refine DsAt.mono (fun k hk=>⟨.inl hk.1,hk.2.1,fun e=>?_⟩) _ _ (DsAt.agree (hmW.agree (fun k hk=>⟨(b4 k hk.1).2,fun h=>?_⟩)) _ _ hcs)
   ·rcases h with h | h | h
    ·have:=(b4 k hk.1).1;omega
    ·exact hk.2.2 h
    ·exact hk.2.1 h
   ·cases e
    rcases hgw with h | h
    ·exact hk.2.2 h
    ·have:=(b4 g hk.1).2;omega
  ·rw [DsAt]
   refine ⟨tcs,[],by simp,?_,by rw [DsAt]⟩
   refine DAt.mono (fun k hk=>⟨.inr ⟨hk.1,by omega⟩,by omega,fun e=>?_⟩) _ _ (DAt.agree (fun k hk=>?_) _ _ ht)
   ·rw [hmf.block k (by omega) (fun h=>?_),hm7.block k hk.2 (fun h=>?_)]
    ·have:=(b4 k (b3 k h).1).2;omega
    ·rcases h with h | h
     ·rcases hg with h' | h'
      ·have:=(b4 g (b3 g h').1).2;omega
      ·omega
     ·omega
   ·cases e
    rcases hg with h | h
    ·have:=(b4 g (b3 g h).1).2;omega
    ·omega
  ·rcases hk.1 with h | h
   ·have:=(b4 k h).2;omega
   ·exact h.2
end Go.Chalk
/- An element is appended as zero: the append, in a region that draws its order. No program is named here. -/
namespace Go.Chalk
open Go.RowKit
variable {P:Program}
theorem step_append_zero {W0:World} {F:Nat->Prop} {ops:Array Oper} {o:Oper} {a:Act} {K:Act->World->Prop} {Q:Exit->Act->World->Prop} {E:Prop} (hgd:o.guard=none) (s x:Operand) (t:TypeId)
  (ho:o.op=.call { callee:=.builtin .append,args:=#[s,x],argTypes:=#[t,t] }) (e:TypeId) (i:TypeInfo) (z:Value) (bytes:Nat) (ht:P.underlying t=some (.slice e)) (hi:P.info? e=some i) (hz:i.zero=some z)
  (hsize:i.size=4) (hby:i.bytes=bytes) (hzs:z.cells.size=4) (oa:Option Addr) (ocap n:Nat) (xs:List D) (r:Option Nat) (zb:Nat) (z0 z1 z2 z3:Value) (tt:TypeId) (hs:a.eval s=.slice oa n ocap) (hx:a.eval x=.slice (some ⟨zb,0,none⟩) 1 1)
  (hv:Chalk.Own W0 F e 4 (.slice oa n ocap) r xs) (hn:xs.length=n) (hzb:W0.heap[zb]?=some (.cells #[z0,z1,z2,z3] tt (0,0))) (ho1:∀ u∈[z0,z1,z2,z3],u.oneCell'=true) (h63:n+1<=maxLen) (hbytes:(n+1)*bytes<=140737488355328)
  (h:∀ g cap cs w7,DsAt W0 F xs cs->w7.ownsRow 0 e 4 (.slice (some ⟨g,0,none⟩) (n+1) cap) (n+1) (cs++[z0,z1,z2,z3])->Mod (fun k=>r=some k) W0 w7->(r=some g∨g=W0.heap.size)->g<w7.heap.size->K (a.put o.dst (.slice (some ⟨g,0,none⟩) (n+1) cap)) w7) :
  if Region.wanted o (yielded ops a.tmps)=true then Oper.wp P o a W0 K Q else E:=by
 have hwn:Region.wanted o (yielded ops a.tmps)=true:=by simp [Region.wanted,hgd]
 rw [if_pos hwn]
 subst hn
 obtain ⟨cs,k1,k2⟩:=hv.cells
 have hnews:∀ j u,[z0,z1,z2,z3][j]?=some u->W0.cell? ((⟨zb,0,none⟩:Addr).add j)=some u:=fun j u hu=>by
  have hc:=cH (i:=j) hzb (v:=u) (by simpa using hu)
  unfold Addr.add
  by_cases h0:j=0
  ·subst h0;simpa using hc
  ·rw [if_neg h0];simpa using hc
 refine wp_append_lies W0 s x t ho 0 e i z 4 bytes ht hi hz hsize hby hzs (by decide) (.slice oa xs.length ocap) xs.length cs hs k1 ⟨zb,0,none⟩ 1 1 [z0,z1,z2,z3] hx rfl hnews ho1 (by omega) h63 hbytes (Nat.zero_le _) _ rfl (fun g cap w' hown hgr hat hlt=>?_)
 exact h g cap cs w' k2 hown (Mod.of_grown hgr (fun k hk=>by rw [<- hv.row];exact hk)) (by rw [<- hv.row];exact hat) hlt
theorem each_end {W wc w7 wf:World} {T1 T':Nat->Prop} {mb H g cap n:Nat} {oa:Option Addr} {ocap:Nat} {r:Option Nat} {xs:List D} {cs:List Value} {z0 z1 z2 z3 c0 c1 c2 c3 v0:Value} {t:D} {te tt:TypeId} (hTT:∀ k,T1 k ↔ T' k∨k=mb) (hmbH:mb<H)
  (b1:W.heap[H]?=some (.cells #[v0] tt (0,0))) (b2:T' H) (b3:∀ k,r=some k->T' k/\k ≠ H) (b4:∀ k,T' k->H<=k/\k<W.heap.size) (b5:Chalk.Own W (fun k=>T' k/\k ≠ H/\r ≠ some k) te 4 (.slice oa n ocap) r xs)
  (hcs:DsAt wc (fun k=>T' k/\k ≠ H/\r ≠ some k) xs cs) (hm:Mod (fun k=>k=mb) W wc) (ht:DAt wc (fun k=>W.heap.size<=k/\k<wc.heap.size) t [c0,c1,c2,c3])
  (hown:w7.ownsRow 0 te 4 (.slice (some ⟨g,0,none⟩) (n+1) cap) (n+1) (cs++[z0,z1,z2,z3])) (hm7:Mod (fun k=>r=some k) wc w7) (hg:r=some g∨g=wc.heap.size) (hg7:g<w7.heap.size) (hxn:xs.length=n)
  (hwf:wf=(put4 w7 g (n*4) c0 c1 c2 c3).setCell ⟨H,0,none⟩ (.slice (some ⟨g,0,none⟩) (n+1) cap)∨wf=put4 (w7.setCell ⟨H,0,none⟩ (.slice (some ⟨g,0,none⟩) (n+1) cap)) g (n*4) c0 c1 c2 c3) :
  (∃ T2,Ext T1 T2 W wf/\Mod T1 W wf/\BoxMb wf mb H tt te (xs++[t]) T2)/\wf.heap[mb]?=wc.heap[mb]?:=by
 have z1':=hm.size
 have hH:=b4 H b2
 have hgH:g ≠ H:=by
  rcases hg with h | h
  ·exact (b3 g h).2
  ·omega
 have hrmb:¬ r=some mb:=fun h=>by have:=(b4 mb (b3 mb h).1).1;omega
 have hgmb:g ≠ mb:=by
  rcases hg with h | h
  ·rintro rfl;exact hrmb h
  ·omega
 have hbc:wc.heap[H]?=some (.cells #[v0] tt (0,0)):=heap_kept b1 hm (by omega)
 have hb7:w7.heap[H]?=some (.cells #[v0] tt (0,0)):=heap_kept hbc hm7 (fun h=>(b3 H h).2 rfl)
 have hcW:DsAt W (fun k=>T' k/\k ≠ H/\r ≠ some k) xs cs:=DsAt.agree (fun k hk=>(hm.block k (b4 k hk.1).2 (by have:=(b4 k hk.1).1;omega)).symm) _ _ hcs
 have hmS:∀ w:World,Mod (fun k=>k=H) w (w.setCell ⟨H,0,none⟩ (.slice (some ⟨g,0,none⟩) (n+1) cap)):=fun w=>(Mod.refl (fun k=>k=H) w).setCell (p:=⟨H,0,none⟩) (fun _=>rfl) _
 have fin:wf.ownsRow 0 te 4 (.slice (some ⟨g,0,none⟩) (n+1) cap) (n+1) (cs++[c0,c1,c2,c3])/\wf.heap[H]?=some (.cells #[.slice (some ⟨g,0,none⟩) (n+1) cap] tt (0,0))/\Mod (fun k=>k=g∨k=H) w7 wf:=by
  rcases hwf with rfl | rfl
  ·refine ⟨row_kept (row_set4 hown c0 c1 c2 c3) (hmS _) hgH,?_,((put4_mod w7 g (n*4) c0 c1 c2 c3).mono (fun _ h=>.inl h)).trans (hmS _) (fun _ _ h=>.inr h)⟩
   have h:=box_store (i:=0) (.slice (some ⟨g,0,none⟩) (n+1) cap) (heap_kept hb7 (put4_mod w7 g (n*4) c0 c1 c2 c3) (fun h=>hgH h.symm))
   exact h
  ·refine ⟨row_set4 (row_kept hown (hmS _) hgH) c0 c1 c2 c3,?_,((hmS _).mono (fun _ h=>.inr h)).trans (put4_mod _ g (n*4) c0 c1 c2 c3) (fun _ _ h=>.inl h)⟩
   have h:=box_store (i:=0) (.slice (some ⟨g,0,none⟩) (n+1) cap) hb7
   exact heap_kept h (put4_mod _ g (n*4) c0 c1 c2 c3) (fun h=>hgH h.symm)
 refine ⟨each_fin hTT hmbH b2 b3 b4 b5 hcW hm ht hm7 hg hg7 fin.1 hxn fin.2.1 fin.2.2,?_⟩
 rw [fin.2.2.block mb (by have:=hm7.size;omega) (by omega),hm7.block mb (by omega) hrmb]
end Go.Chalk
/- ground's trees: the list of the parts as it grows; a node. No program is named here. -/
namespace Go.Chalk
open Go.RowKit
def KidsAt (W:World) (B:Nat) (e:TypeId) (v:Value) (ts:List Tr):Prop:=∃ F,OwnN W B F e 4 v (ts.map Tr.toD)/\∀ k,F k->B<=k
theorem Tr.widths:∀ ts:List Tr,Chalk.widths (ts.map Tr.toD)=ts.length*4
 | []=>rfl
 | t :: r=>by
  have:=Tr.widths r
  have h:=Tr.width t
  simp only [List.map_cons,Chalk.widths,List.length_cons,this,h];omega
theorem KidsAt.nil (W:World) (B:Nat) (e:TypeId):KidsAt W B e (.slice none 0 0) []:=⟨fun _=>False,OwnN.nil _ _ _ _ _ (fun _ h=>h.elim),fun _ h=>h.elim⟩
theorem KidsAt.form {W:World} {B:Nat} {e:TypeId} {v:Value} {ts:List Tr} (h:KidsAt W B e v ts):∃ a cap,v=.slice a ts.length cap:=by
 obtain ⟨F,h1,_⟩:=h
 obtain ⟨a,cap,e⟩:=h1.form
 exact ⟨a,cap,by rw [e,List.length_map]⟩
theorem KidsAt.sl {W:World} {B:Nat} {e:TypeId} {v:Value} {ts:List Tr} (h:KidsAt W B e v ts):∃ u:SlA,v=u.val ts.length/\SlIn W (fun k=>B<=k/\k<W.heap.size) (ts.map Tr.toD) u:=by
 obtain ⟨F,⟨r,h1,h2⟩,h3⟩:=h
 have h4:=h1.read (G:=fun k=>B<=k/\k<W.heap.size) (fun k hk=>⟨h3 k hk,h1.lt k hk⟩) (fun k hk=>⟨h2 k hk,h1.row_lt hk⟩) (by rw [Tr.widths,List.length_map])
 obtain ⟨u,hu,hs⟩:=DAt.sl_iff.1 h4
 simp only [List.cons.injEq,and_true] at hu
 exact ⟨u,by rw [hu,List.length_map],hs⟩
theorem KidsAt.call {Wc W0:World} {B mb:Nat} {e:TypeId} {v:Value} {ts:List Tr} {t:D} {cs:List Value} (h:KidsAt Wc B e v ts) (hm:Mod (fun k=>k=mb) Wc W0) (hmb:mb<B) (hB:B<=Wc.heap.size) (ht:DAt W0 (fun k=>Wc.heap.size<=k/\k<W0.heap.size) t cs) :
  ∃ F,OwnN W0 B F e 4 v (ts.map Tr.toD)/\DsAt W0 F [t] cs/\∀ k,F k->B<=k:=by
 obtain ⟨F,⟨r,h1,h2⟩,h3⟩:=h
 have hz:=hm.size
 refine ⟨fun k=>F k∨(Wc.heap.size<=k/\k<W0.heap.size),⟨r,(h1.kept hm (fun k hk e=>by have:=h3 k hk;omega) (fun k hk e=>by have:=h2 k hk;omega)).widen (fun _=>.inl) (fun k hk hk'=>?_) (fun k hk=>?_),h2⟩,?_,fun k hk=>?_⟩
 ·rcases hk' with h | h
  ·exact h1.off k hk h
  ·have:=h1.row_lt hk;omega
 ·rcases hk with h | h
  ·have:=h1.lt k h;omega
  ·exact h.2
 ·rw [DsAt]
  exact ⟨cs,[],(List.append_nil _).symm,DAt.mono (fun k hk=>.inr hk) _ _ ht,by rw [DsAt]⟩
 ·rcases hk with h | h
  ·exact h3 k h
  ·omega
theorem KidsAt.of {W:World} {B:Nat} {F:Nat->Prop} {e:TypeId} {v:Value} {ts:List Tr} {t:Tr} (h:OwnN W B F e 4 v (ts.map Tr.toD++[t.toD])) (hF:∀ k,F k->B<=k):KidsAt W B e v (ts++[t]):=⟨F,by rw [List.map_append];exact h,hF⟩
theorem KidsAt.kept {W W':World} {B mb:Nat} {e:TypeId} {v:Value} {ts:List Tr} (h:KidsAt W B e v ts) (hm:Mod (fun k=>k=mb) W W') (hmb:mb<B):KidsAt W' B e v ts:=by
 obtain ⟨F,⟨r,h1,h2⟩,h3⟩:=h
 exact ⟨F,⟨r,h1.kept hm (fun k hk e=>by have:=h3 k hk;omega) (fun k hk e=>by have:=h2 k hk;omega),h2⟩,h3⟩
theorem Tr.close {W:World} {F:Nat->Prop} {kind v k:Int} {ts:List Tr} {u:SlA} (h1:I64 kind) (h2:I64 v) (h3:I64 k) (h:SlIn W F (ts.map Tr.toD) u):DAt W F (Tr.mk kind v k ts).toD [.int .i64 kind,.int .i64 v,.int .i64 k,.slice u.a ts.length u.cap]:=by
 have hi:∀ n:Int,I64 n->DAt W F (.int .i64 n) [.int .i64 n]:=fun n hn=>by rw [DAt];exact ⟨rfl,hn.wf⟩
 rw [Tr.toD,DAt,DsAt]
 refine ⟨[_],_,rfl,hi _ h1,?_⟩
 rw [DsAt]
 refine ⟨[_],_,rfl,hi _ h2,?_⟩
 rw [DsAt]
 refine ⟨[_],_,rfl,hi _ h3,?_⟩
 rw [DsAt]
 refine ⟨[_],[],rfl,DAt.sl_iff.2 ⟨u,?_,by rw [Tr.toDs_eq];exact h⟩,by rw [DsAt]⟩
 rw [Tr.toDs_eq,List.length_map]
theorem SlIn.tre {W:World} {F:Nat->Prop} {ts:List Tr} {u:SlA} (h:SlIn W F (ts.map Tr.toD) u) (i:Nat) (hi:i<ts.length) :
  ∃ k0 k1 k2 a n cap,CellsAt W u.b (u.o+i*4) [.int .i64 k0,.int .i64 k1,.int .i64 k2,.slice a n cap]/\DAt W F (ts[i]).toD [.int .i64 k0,.int .i64 k1,.int .i64 k2,.slice a n cap]:=by
 obtain ⟨cs,h1,h2⟩:=h.row.get (sz:=4) (fun d hd=>by obtain ⟨t,_,rfl⟩:=List.mem_map.1 hd;exact t.width) i (by simpa using hi)
 rw [List.getElem_map] at h1
 have hl:=DAt.length _ _ h1
 rw [Tr.width] at hl
 match cs,hl with
 | [c0,c1,c2,c3],_ =>
  obtain ⟨k0,k1,k2,a,n,cap,rfl,rfl,rfl,rfl⟩:=TreeV.shape h1
  exact ⟨k0,k1,k2,a,n,cap,h2,h1⟩
end Go.Chalk
