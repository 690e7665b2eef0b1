/- Joined texts: WGWeek. -/
import Derived.Test.YtjjkfgjnadaheaaGreatDoorB48
import Derived.Test.YtjjkfgjnadaheaaGreatDoorLGWeek2
import Derived.Test.YtjjkfgjnadaheaaGreatDoorB47
import Derived.Laws.CopyOwn
set_option linter.unusedVariables false
set_option linter.unusedSimpArgs false
set_option maxHeartbeats 16000000
set_option maxRecDepth 100000

/- GroundWeeks: where the listed variables hold what their text lays, the law returns true. -/
namespace Go.Chalk
open Go.RowKit
theorem vars_sizes (l:List Int):sizes (l.map (fun v=>Tr.mk 2 v 0 []))=l.length:=by
 induction l with
 | nil=>rfl
 | cons v r ih=>rw [List.map_cons,sizes,Tr.size_mk,ih,List.length_cons];simp only [sizes];omega
theorem oneT_size (l:List Int):(oneT l).size<=5+2*l.length:=by
 unfold oneT
 simp only [Tr.size_mk,sizes,vars_sizes];omega
theorem frame_sizes (s:Schl) (h1:s.slots.length<=6) (h2:s.rooms.length<=4):(∀ t∈frameF s,t.size<=2000000):=by
 intro t ht
 unfold frameF at ht
 obtain ⟨i,_,h⟩:=List.mem_flatMap.1 ht
 simp only [List.mem_cons,List.not_mem_nil,or_false] at h
 rcases h with rfl | rfl
 ·have:=oneT_size (slotsV s i);have e:(slotsV s i).length=s.slots.length:=by simp [slotsV]
  omega
 ·have:=oneT_size (roomsV s i);have e:(roomsV s i).length=s.rooms.length:=by simp [roomsV]
  omega
theorem frame_len (s:Schl):(frameF s).length=2*s.lessons.length:=by
 unfold frameF
 generalize s.lessons.length=n
 induction n with
 | zero=>rfl
 | succ n ih=>rw [List.range_succ,List.flatMap_append,List.length_append,ih];simp;omega
theorem splice_pad (n:Nat) (a:List Bool):splice ((List.replicate (n+1) false).map Value.bool) 1 ((a.take n).map Value.bool)=(padB n a).map Value.bool:=by
 unfold splice padB
 simp only [List.map_cons,List.map_append,List.replicate_succ,List.take_succ_cons,List.take_zero,List.length_map,List.length_take,List.singleton_append,List.cons.injEq,true_and,List.append_cancel_left_eq]
 rw [show 1+min n a.length=min n a.length+1 by omega,List.drop_succ_cons,<- List.map_drop,List.drop_replicate]
 congr 2
 omega
end Go.Chalk
namespace Go.Proofs.YtjjkfgjnadaheaaGreatDoor
open Go.RowKit Go.Chalk
theorem gweeks_walk (s:Schl) (x:SchA) (a:List Bool) (u:SlA) (w:World) (hI:ItoaAt) (hf:SchFit s) (hg:GG w) (hs:SchIn w (·<w.heap.size) s x) (hu:SlIn w (·<w.heap.size) (dbools a) u) (ha:a.length<=2000000) :
  Calls Tryz.prog 7 #[.agg (x.cells s).toArray,.slice u.a a.length u.cap] w fun e w'=>e=.returned (.bool true)/\Below w.heap.size w w':=by
 obtain ⟨W0,hW0⟩:∃ W0,W0=w.alloc (.cells (x.cells s).toArray 28):=⟨_,rfl⟩
 have hb0:Below w.heap.size w W0:=by rw [hW0];exact (Below.refl _ _).alloc (Nat.le_refl _) _
 have hz0:W0.heap.size=w.heap.size+1:=by rw [hW0];simp
 have hq0:SchBox W0 w.heap.size s x:=by rw [hW0];unfold SchBox;rw [heap_get,if_pos rfl]
 have HLV:=Lh (fun (W:World) (hW:Below w.heap.size w W)=>live10_any W hI (hg.below hW))
 have HFW:=Lh (fun (W:World) (hW:Below w.heap.size w W)=>rfew10_tight s x W (hs.later hW hW.size) hf.toSchSmall.lessons)
 have HCK:=Lh (fun (W:World) (hW:Below w.heap.size w W)=>scheck_any s x W hI (hs.later hW hW.size) hf (hg.below hW))
 have HVA:=Lh (fun W=>wvars_any s x W hf.toSchSmall)
 have HFR:=Lh (fun (W:World) (hW:Below w.heap.size w W)=>gFrame_any s x W hI hf (hg.below hW) (hs.later hW hW.size))
 have HOF:=Lh (fun (b:List Bool) (v:SlA) (W:World) (hW:Below w.heap.size w W) (hv:SlIn W (·<W.heap.size) (dbools b) v) (hb:b.length<=2000000)=>wof_any s x b v W hI hf (hg.below hW) (hs.later hW hW.size) hv hb)
 have HTW:=Lh (fun (l:List Plc) (y:SlA) (W:World) (hW:Below w.heap.size w W) (hy:SlIn W (·<W.heap.size) (l.map Plc.toD) y) (hl:l.length<=2000000)=>wtrue_any s x l y W hI hf (hg.below hW) (hs.later hW hW.size) hy hl)
 have HPL:=Lh (fun (X:List Bool) (hs:schCheck s=0)=>gweeks_plain s X hs)
 have HE:Hid (∀ W,Below W0.heap.size W0 W->Below w.heap.size w W/\(W.cell? ⟨w.heap.size,0,none⟩=some (.slice x.slots.a s.slots.length x.slots.cap)/\W.cell? ⟨w.heap.size,1,none⟩=some (.slice x.rooms.a s.rooms.length x.rooms.cap)/\W.cell? ⟨w.heap.size,2,none⟩=some (.slice x.people.a s.people.length x.people.cap)/\W.cell? ⟨w.heap.size,3,none⟩=some (.slice x.groups.a s.groups.length x.groups.cap)/\W.cell? ⟨w.heap.size,4,none⟩=some (.slice x.lessons.a s.lessons.length x.lessons.cap))):=Lh (fun W hW=>⟨hb0.trans (hW.mono hb0.size),(hq0.below hW).cells⟩)
 have HB0:=Lh hb0
 have HZ0:=Lh hz0
 have HW0:=Lh hW0
 have HU:=Lh (aI hu ha)
 have HFS:=Lh (frame_sizes s)
 have HFL:=Lh (frame_len s)
 have HVE:Hid (wkVars s=s.lessons.length*(s.slots.length+s.rooms.length)):=Lh rfl
 have HGF:Hid (schCheck s=0->gFrameF s=(frameF s,0)):=Lh (fun h=>by unfold gFrameF;rw [if_neg (by simp [h])])
 have HOL:Hid (∀ X,(ofF s X).1.length<=2000000):=Lh (fun X=>by
  unfold ofF
  have:=hf.toSchSmall.lessons
  split
  ·simp
  split
  ·simpa [weekF] using this
  ·simp)
 clear hb0 hz0 hq0 hW0 hI hf hg hs hu ha
 generalize schCheck s=sc at HCK HPL HGF
 generalize wkVars s=n at HVA HPL HVE
 simp only [SchA.cells,SlA.val] at HFW HCK HVA HFR HOF HTW HW0 ⊢
 go_enter Tryz.func7,Tryz.ntmps7
 go_wp2_with fail
 rw [<- HW0.out]
 refine (HLV.out _ HB0.out).mono ?_
 rintro e w1 ⟨rfl,hb1⟩
 have H1:=Lh hb1
 clear hb1
 obtain ⟨_,c0,c1,c2,c3,c4⟩:=HE.out w1 H1.out
 go_wp2_with fail
 refine (HFW.out _ (HE.out _ H1.out).1).mono ?_
 rintro e w2 ⟨⟨b2,rfl,hsm⟩,hb2⟩
 have H2:=Lh (H1.out.trans (hb2.mono H1.out.size))
 have HSM:=Lh hsm
 clear hb2 hsm c0 c1 c2 c3 c4
 cases b2
 ·go_wp2_with fail
  go_ret
  exact ⟨rfl,(HE.out _ H2.out).1⟩
 have HS:=Lh (HSM.out rfl)
 clear HSM
 obtain ⟨_,c0,c1,c2,c3,c4⟩:=HE.out w2 H2.out
 go_wp2_with fail
 refine (HCK.out _ (HE.out _ H2.out).1).mono ?_
 rintro e w3 ⟨rfl,hb3⟩
 have H3:=Lh (H2.out.trans (hb3.mono H2.out.size))
 clear hb3 c0 c1 c2 c3 c4
 by_cases hsc:sc=0
 rotate_left
 ·have z1:(sc != 0)=true:=by simpa using hsc
  clear hsc
  go_wp2_with fail
  go_ret
  exact ⟨rfl,(HE.out _ H3.out).1⟩
 subst hsc
 have HG0:=Lh (HGF.out rfl)
 have HP0:=Lh (fun X=>HPL.out X rfl)
 clear HGF HPL
 obtain ⟨_,c0,c1,c2,c3,c4⟩:=HE.out w3 H3.out
 go_wp2_with fail
 refine (HVA.out _).mono ?_
 rintro e w4 ⟨rfl,hb4⟩
 have H4:=Lh (H3.out.trans (hb4.mono H3.out.size))
 clear hb4 c0 c1 c2 c3 c4
 have hn50:n<=50:=by
  rw [HVE.out]
  exact Nat.le_trans (Nat.mul_le_mul HS.out.1 (show s.slots.length+s.rooms.length<=10 by have:=HS.out.2;omega)) (by decide)
 have HN:=Lh hn50
 by_cases ha1:(1000:Int)<(a.length:Int)
 ·have z1:decide ((n:Int)<0)=false:=by simp
  have z2:decide ((1000:Int)<(n:Int))=false:=by simp;omega
  have z3:decide ((1000:Int)<(a.length:Int))=true:=decide_eq_true ha1
  have z4:decide ((0:Int)<=(n:Int))=true:=by simp
  have z5:decide ((n:Int)<=4000)=true:=by simp;omega
  clear ha1 hn50
  go_wp2_with fail
  go_ret
  exact ⟨rfl,(HE.out _ H4.out).1⟩
 have z1:decide ((n:Int)<0)=false:=by simp
 have z2:decide ((1000:Int)<(n:Int))=false:=by simp;omega
 have z3:decide ((1000:Int)<(a.length:Int))=false:=decide_eq_false ha1
 have hmk:=make_bools (n+1) (by omega)
 rw [show (((n+1:Nat):Nat):Int)=((n:Nat):Int)+1 by push_cast;rfl] at hmk
 clear ha1
 go_upto_region 9 with fail
 obtain ⟨W5,hW5⟩:∃ W5,W5=w4.alloc (.cells (Array.replicate (n+1) (.bool false)) 4):=⟨_,rfl⟩
 rw [<- hW5]
 have hb5:Below w4.heap.size w4 W5:=by rw [hW5];exact (Below.refl _ _).alloc (Nat.le_refl _) _
 have hx5:W5.heap[w4.heap.size]?=some (.cells ((List.replicate (n+1) false).map Value.bool).toArray 4 (0,0)):=by rw [hW5,heap_get,if_pos rfl];simp
 have hz5:W5.heap.size=w4.heap.size+1:=by rw [hW5];simp
 obtain ⟨cur,hcur⟩:∃ cur,cur=(List.replicate (n+1) false).map Value.bool:=⟨_,rfl⟩
 obtain ⟨cs,hcs⟩:∃ cs,cs=(a.take n).map Value.bool:=⟨_,rfl⟩
 rw [<- hcur] at hx5
 have hlc:cs.length=Nat.min a.length n:=by rw [hcs];simp [Nat.min_comm]
 have hlu:cur.length=n+1:=by rw [hcur];simp
 have HC:=Lh (aI hcur hcs)
 have HL:=Lh (aI hlc hlu)
 have HB5:=Lh (aI hb5 (aI hx5 hz5))
 have hua:=bool_at (HU.out.1.later ((HE.out _ H4.out).1.trans (hb5.mono (HE.out _ H4.out).1.size)) (Nat.le_trans (HE.out _ H4.out).1.size hb5.size))
 have HPOS:Hid (0<cs.length->(n+1 ≠ 1)/\∃ ad,u.a=some ad/\∀ j v,cs[j]?=some v->W5.cell? (ad.add j)=some v):=Lh (fun h=>by
  rw [hlc] at h
  have h2:0<a.length/\0<n:=by simp only [Nat.min_def] at h;split at h <;> omega
  obtain ⟨e1,_⟩:=hua.1 h2.1
  refine ⟨by omega,_,e1,fun j v hj=>?_⟩
  rw [hcs,List.getElem?_map,Option.map_eq_some_iff] at hj
  obtain ⟨q,hq,rfl⟩:=hj
  obtain ⟨hj1,hj2⟩:=List.getElem?_eq_some_iff.1 hq
  rw [List.length_take] at hj1
  have h3:=hua.2 j (by omega)
  rw [List.getElem_take] at hj2
  rw [hj2] at h3
  have e:(⟨u.b,u.o,none⟩:Addr).add j=⟨u.b,u.o+j,none⟩:=by unfold Addr.add;split <;> simp_all
  rw [e];exact h3)
 have H1C:Hid (∀ v∈cs,v.oneCell'=true):=Lh (fun v hv=>by
  rw [hcs] at hv
  obtain ⟨q,_,rfl⟩:=List.mem_map.1 hv
  rfl)
 have hszb:(Tryz.prog.info? 4).map (·.size)=some 1:=by kernel_rfl
 have HZB:=Lh hszb
 clear hW5 hb5 hx5 hz5 hcur hcs hlc hlu hua hszb hmk
 go_cut [] from 50 to 53 (fun W=>Hid (W.heap[w4.heap.size]?=some (.cells (splice cur 1 cs).toArray 4 (0,0)))/\Hid (Below w4.heap.size w4 W))
 case first =>
  go_wp2_with (refine wpList_copy_splice rfl (.tmp 51) (.tmp 52) 51 51 rfl 4 Tryz.underlying51 HZB.out _ _ _ _ _ _ rfl rfl w4.heap.size 1 cur 4 HB5.out.2.1 cs ?hn ?hpos (by rw [HL.out.1,HL.out.2];simp only [Nat.min_def];split <;> omega) H1C.out w4.heap.size w4 HB5.out.1 (Nat.le_refl _) ?_;rotate_left 2;intro w6 HG6 hB6;have H6:=Lh hB6;clear hB6)
  case hn=>exact HL.out.1
  case hpos.inl h=>exact List.eq_nil_of_length_eq_zero (by rw [HL.out.1,h];simp [Nat.min_def])
  case hpos.inr h=>exact fun h=>(HPOS.out h).2
  case inl h =>
   subst h
   go_meet
   exact ⟨HG6,H6⟩
  case inr h =>
   go_meet
   exact ⟨HG6,H6⟩
 case rest =>
 obtain ⟨HG6,H6⟩:=hcut
 have hg6:=HG6.out
 rw [HC.out.1,HC.out.2,splice_pad] at hg6
 have hlx:(padB n a).length=n+1:=padB_len n a
 have HLX:=Lh hlx
 have HX6:=Lh (SlIn.lit (F:=(·<wc.heap.size)) (xs:=dbools (padB n a)) (cap:=n+1) hg6 DsAt.bools (gS hg6).1 (by rw [dbools_length,hlx];exact Nat.le_refl _) (by have:=HN.out;unfold maxLen;omega))
 have HPX:=Lh (HP0.out (padB n a) hlx (padB_zero n a))
 have hb06:Below W0.heap.size W0 wc:=H4.out.trans (H6.out.mono H4.out.size)
 have H06:=Lh hb06
 clear HPOS H1C HZB HG6 HC HL hg6 hlx hb06
 generalize padB n a=X at HLX HX6 HPX
 generalize frameF s=L at HFS HFL HG0 HPX
 rw [HG0.out] at HFR
 obtain ⟨_,c0,c1,c2,c3,c4⟩:=HE.out wc H06.out
 go_wp2_with fail
 refine (HFR.out _ (HE.out _ H06.out).1).mono ?_
 rintro e w7 ⟨lv,rfl,hlv,hb7⟩
 have H07:=Lh (H06.out.trans (hb7.mono H06.out.size))
 have HX7:=Lh (HX6.out.later hb7 hb7.size)
 have HLV:=Lh (hlv.mono (fun _ k=>k.2):SlIn w7 (·<w7.heap.size) (L.map Tr.toD) lv)
 clear hb7 hlv c0 c1 c2 c3 c4
 have HLS:=Lh (HFS.out HS.out.2.1 HS.out.2.2)
 have HLM:Hid (L.length<=2000000):=Lh (by have:=HFL.out;have:=HS.out.1;omega)
 simp only
 go_wp2_with fail
 go_loopw [61,9] (fun i v wr=>∃ j:Nat,j<=L.length/\i=.int .i64 j/\v=.bool ((L.take j).all (valG · X))/\Hid (Below w7.heap.size w7 wr)) (fun i _ _=>L.length - (intOf i).toNat)
 case atStart=>exact ⟨0,Nat.zero_le _,rfl,rfl,Lh (Below.refl _ _)⟩
 case round =>
  obtain ⟨j,hj,rfl,rfl,HB7⟩:=hrel
  have hlm:=HLM.out
  by_cases hlt:j<L.length
  ·obtain ⟨k0,k1,k2,ta,tn,tc,ht1,ht2⟩:=HLV.out.tre j hlt
   obtain ⟨hla,hlb⟩:=HLV.out.at_ (by rw [List.length_map];omega)
   obtain ⟨e0,e1,e2,e3⟩:=(ht1.agree (agree_of_below HB7.out) hlb).four
   have hlbr:lv.b<wr.heap.size:=Nat.lt_of_lt_of_le hlb HB7.out.size
   have hvs:(L.take (j+1)).all (valG · X)=((L.take j).all (valG · X)&&valG L[j] X):=by
    rw [List.take_succ_eq_append_getElem hlt,List.all_append];simp
   have HVS:=Lh hvs
   have HVL:=Lh (fun (W:World) (hW:Below w7.heap.size w7 W)=>gval_any X ⟨some ⟨w4.heap.size,0,none⟩,w4.heap.size,0,n+1⟩ (L[j]).size L[j] _ W (Nat.le_refl _) (HLS.out _ (List.getElem_mem hlt)) (by have:=HLX.out;have:=HN.out;omega) (DAt.mono (fun k (hk:k<w7.heap.size)=>Nat.lt_of_lt_of_le hk hW.size) _ _ (DAt.agree (agree_of_below hW) _ _ ht2)) (HX7.out.later hW hW.size))
   have hba:Below wr.heap.size wr (wr.alloc (.cells #[.int .i64 k0,.int .i64 k1,.int .i64 k2,.slice ta tn tc] 39)):=(Below.refl _ _).alloc (Nat.le_refl _) _
   have HBA:=Lh (HB7.out.trans (hba.mono HB7.out.size))
   rw [HLX.out] at HVL
   rw [hla]
   clear ht1 ht2 hla hlb hvs hba
   generalize (L.take j).all (valG · X)=b1 at HVS ⊢
   generalize valG L[j] X=b2 at HVS HVL
   cases b1
   ·go_wp2_with fail
    exact ⟨⟨j+1,by omega,by go_num,by rw [HVS.out];rfl,Lh HBA.out⟩,by simp [intOf];omega⟩
   ·go_wp2_with fail
    refine (HVL.out _ HBA.out).mono ?_
    rintro e w8 ⟨rfl,hb8⟩
    have H8:=Lh (HBA.out.trans (hb8.mono HBA.out.size))
    clear hb8
    go_wp2_with fail
    exact ⟨⟨j+1,by omega,by go_num,by rw [HVS.out];rfl,Lh H8.out⟩,by simp [intOf];omega⟩
  ·obtain rfl:j=L.length:=by omega
   have hbr0:Below W0.heap.size W0 wr:=H07.out.trans (HB7.out.mono H07.out.size)
   have H0R:=Lh hbr0
   have HXR:=Lh (HX7.out.later HB7.out HB7.out.size)
   have HOX:=Lh (HOF.out X ⟨some ⟨w4.heap.size,0,none⟩,w4.heap.size,0,n+1⟩ wr (HE.out _ hbr0).1 HXR.out (by have:=HLX.out;have:=HN.out;omega))
   have HTX:=Lh (HTW.out (ofF s X).1)
   have HOX2:=Lh (HOL.out X)
   rw [HLX.out] at HOX
   rw [List.take_length]
   generalize L.all (valG · X)=al at HPX ⊢
   generalize ofF s X=R at HOX HPX HTX HOX2
   obtain ⟨pl,pe⟩:=R
   simp only at HTX HPX HOX2
   obtain ⟨_,c0,c1,c2,c3,c4⟩:=HE.out wr H0R.out
   clear hbr0 hlt hj
   go_wp2_with fail
   refine HOX.out.mono ?_
   rintro e w8 ⟨pv,rfl,hpv,hb8⟩
   have H08:=Lh (H0R.out.trans (hb8.mono H0R.out.size))
   have HX8:=Lh (HXR.out.later hb8 hb8.size)
   have HPV:=Lh hpv
   clear hpv hb8 c0 c1 c2 c3 c4
   simp only
   go_upto_region 18 with fail
   obtain ⟨w9,hW9⟩:∃ w9,w9=w8.alloc (.cells #[.slice pv.a pl.length pv.cap] 50):=⟨_,rfl⟩
   rw [<- hW9]
   have hb9:Below w8.heap.size w8 w9:=by rw [hW9];exact (Below.refl _ _).alloc (Nat.le_refl _) _
   have d0:w9.cell? ⟨w8.heap.size,0,none⟩=some (.slice pv.a pl.length pv.cap):=by
    have:w9.heap[w8.heap.size]?=some (.cells #[.slice pv.a pl.length pv.cap] 50 (0,0)):=by rw [hW9,heap_get,if_pos rfl]
    exact cH this rfl
   have H09:=Lh (H08.out.trans (hb9.mono H08.out.size))
   have HX9:=Lh (HX8.out.later hb9 hb9.size)
   have HPV9:=Lh (HPV.out.later hb9 hb9.size)
   clear hW9 hb9
   cases al
   ·obtain ⟨hp1,hp2⟩:=HPX.out.2 rfl
    subst hp1;subst hp2
    go_wp2_with fail
    go_ret
    exact ⟨rfl,(HE.out _ H09.out).1⟩
   ·obtain ⟨hp1,hp2⟩:=HPX.out.1 rfl
    subst hp1
    have HTY:=Lh (HTX.out pv w9 (HE.out _ H09.out).1 HPV9.out HOX2.out)
    rw [hp2] at HTY
    obtain ⟨_,c0,c1,c2,c3,c4⟩:=HE.out w9 H09.out
    clear hp2
    go_wp2_with fail
    refine HTY.out.mono ?_
    rintro e w10 ⟨bu,rfl,hbu,hb10⟩
    have H10:=Lh (H09.out.trans (hb10.mono H09.out.size))
    have HXA:=Lh (HX9.out.later hb10 hb10.size)
    have HBU:=Lh (hbu.mono (fun _ k=>k.2):SlIn w10 (·<w10.heap.size) (dbools X) bu)
    clear hbu hb10 c0 c1 c2 c3 c4 d0
    simp only
    rw [HLX.out]
    go_wp2_with fail
    go_loopw [17,16] (fun i v wr=>∃ j:Nat,j<=n+1/\i=.int .i64 j/\v=.bool true/\Hid (Below w10.heap.size w10 wr)) (fun i _ _=>n+1 - (intOf i).toNat)
    case atStart=>exact ⟨0,Nat.zero_le _,rfl,rfl,Lh (Below.refl _ _)⟩
    case round =>
     obtain ⟨j,hj,rfl,rfl,HBA⟩:=hrel
     have hnn:=HN.out
     by_cases hlt:j<n+1
     ·have hlt2:j<X.length:=by rw [HLX.out];exact hlt
      obtain ⟨p1,p2⟩:=bool_at HBU.out
      obtain ⟨p3,p4⟩:=bool_at HXA.out
      obtain ⟨e1,e2⟩:=p1 (by omega)
      obtain ⟨_,e3⟩:=p3 (by omega)
      have q1:=(HBA.out.cell (p:=⟨bu.b,bu.o+j,none⟩) e2).trans (p2 j hlt2)
      have q2:=(HBA.out.cell (p:=⟨w4.heap.size,0+j,none⟩) e3).trans (p4 j hlt2)
      simp only [Nat.zero_add] at q2
      generalize X[j]=bx at q1 q2
      have i1:(0:Int)<=(j:Int):=by omega
      have i2:(j:Int)<(n:Int)+1:=by omega
      rw [e1]
      clear p1 p2 p3 p4 e1 e2 e3 hlt2
      go_wp2_with fail
      go_quiet (fail)
      go_wp2_with fail
      exact ⟨⟨j+1,by omega,by go_num,rfl,Lh (show Below w10.heap.size w10 (wr.drewN _) from ⟨HBA.out.os,HBA.out.tape,HBA.out.output,HBA.out.size,HBA.out.block⟩)⟩,by simp [intOf];omega⟩
     ·obtain rfl:j=n+1:=by omega
      go_wp2_with fail
      go_ret
      exact ⟨rfl,(HE.out _ (H10.out.trans (HBA.out.mono H10.out.size))).1⟩
end Go.Proofs.YtjjkfgjnadaheaaGreatDoor
