/- Joined texts: YLexC. -/
import Derived.Test.YtpmalchlecnjbaaGreatDoorV26
import Derived.Deep.RegionHeld3
set_option maxHeartbeats 1000000
set_option maxRecDepth 100000
set_option linter.unusedVariables false
set_option linter.unusedSimpArgs false
/- slices.Index over bytes; lex.next. -/
namespace Go.Chalk
open Go.RowKit
theorem below_undrewY {B:Nat} {w w3:World} (h:Below B w w3):Below B w w3.drew:=⟨h.os,h.tape,h.output,h.size,h.block⟩
theorem res3 {W:World} {H:Nat} {t:TypeId} {c0 c1 c2:Value} (h:W.heap[H]?=some (.cells #[c0,c1,c2] t (0,0))) :
  W.frozen? ⟨H,0,none⟩=false/\W.frozen? ⟨H,1,none⟩=false/\W.frozen? ⟨H,2,none⟩=false/\W.cell? ⟨H,0,none⟩=some c0/\W.cell? ⟨H,1,none⟩=some c1/\W.cell? ⟨H,2,none⟩=some c2 :=
 ⟨by simp [World.frozen?,h],by simp [World.frozen?,h],by simp [World.frozen?,h],cH h rfl,cH h rfl,cH h rfl⟩
def put3 (W:World) (H:Nat) (c0 c1 c2:Value):World:=((W.setCell ⟨H,0,none⟩ c0).setCell ⟨H,1,none⟩ c1).setCell ⟨H,2,none⟩ c2
theorem put3_below {w W:World} {H:Nat} (c0 c1 c2:Value) (hb:Below w.heap.size w W) (hH:w.heap.size<=H):Below w.heap.size w (put3 W H c0 c1 c2) :=
 ((hb.setCell hH _).setCell hH _).setCell hH _
theorem takeWhile_takeY (q:UInt8->Bool) (l:Bs):l.take (l.takeWhile q).length=l.takeWhile q:=(List.prefix_iff_eq_take.1 (List.takeWhile_prefix q)).symm
theorem SB.run {w:World} {B:Nat} {l:Bs} {a:Option Addr} {b o:Nat} (h:SB w B l a b o) (q:UInt8->Bool):SB w B (l.takeWhile q) a b o:=by
 have h2:=h.2.take (l.takeWhile q).length
 rw [takeWhile_takeY] at h2
 exact ⟨fun hp=>h.1 (Nat.lt_of_lt_of_le hp (List.takeWhile_sublist _).length_le),h2⟩
end Go.Chalk
namespace Go.Proofs.YtpmalchlecnjbaaGreatDoor
open Go.RowKit Go.Chalk
theorem indexLine_any (l:Bs) (a:Option Addr) (b o cap:Nat) (w:World) (hsb:SB w w.heap.size l a b o) (hmax:l.length<=281474976710656) :
  Calls Tryz.prog 53 #[.slice a l.length cap,.int .u8 10] w fun e w'=>e=.returned (.int .i64 (findBY lineB l))/\w'=w:=by
 have HSB:=Lh hsb
 clear hsb
 go_enter Tryz.func53,Tryz.ntmps53
 go_wp2_with fail
 go_loop [8,5] (fun i _=>∃ j:Nat,j<=l.length/\i=.int .i64 j/\Hid ((l.take j).findIdx? lineB=none)) (fun i _=>l.length - (intOf i).toNat)
 case atStart=>exact ⟨0,Nat.zero_le _,rfl,by simp [Hid]⟩
 case round =>
  obtain ⟨j,hj,rfl,HF⟩:=hrel
  by_cases hlt:j<l.length
  ·obtain ⟨rfl,hbl⟩:=HSB.out.1 (by omega)
   have hcl:=HSB.out.2 j hlt
   have hnext:(l.take (j+1)).findIdx? lineB=if lineB l[j] then some j else none:=by
    rw [List.take_succ_eq_append_getElem hlt,List.findIdx?_append,HF.out]
    simp [List.findIdx?_cons,Nat.min_eq_left hj]
   have hfound:lineB l[j]=true->findBY lineB l=j:=fun h=>by
    have:l.findIdx? lineB=some j:=by
     rw [List.findIdx?_eq_some_iff_getElem]
     refine ⟨hlt,h,fun k hk=>?_⟩
     have h0:=HF.out
     rw [List.findIdx?_eq_none_iff] at h0
     have:=h0 l[k] (List.mem_take_iff_getElem.2 ⟨k,by omega,rfl⟩)
     simpa using this
    simp [findBY,this]
   have hlb:((10:Int)==(l[j].toNat:Int))=lineB l[j]:=by
    rw [Bool.eq_iff_iff];simp [lineB];omega
   have HN:=Lh (aI hnext hfound)
   clear hnext hfound
   cases hll:lineB l[j]
   ·rw [hll] at hlb
    have HLL:=Lh hll
    clear hll
    generalize (l[j].toNat:Int)=cj at *
    go_wp2_with fail
    go_round
    case rel=>exact ⟨j+1,by omega,by go_num,by have:=HN.out.1;rw [HLL.out] at this;simpa [Hid] using this⟩
    case measure=>simp [intOf];omega
   ·rw [hll] at hlb
    have HLL:=Lh hll
    clear hll
    generalize (l[j].toNat:Int)=cj at *
    go_wp2_with fail
    go_ret
    exact ⟨ret_intY (HN.out.2 HLL.out).symm,rfl⟩
  ·go_wp2_with fail
   go_ret
   have h0:=HF.out
   rw [List.take_of_length_le (by omega)] at h0
   exact ⟨ret_intY (by simp [findBY,h0]),rfl⟩

theorem next_any (c:UInt8) (r:Bs) (b o cap:Nat) (w:World) (hsb:SB w w.heap.size (c :: r) (some ⟨b,o,none⟩) b o) (hcap:(c :: r).length<=cap) (hmax:(c :: r).length<=281474976710656) (hg:GAt w) :
  Calls Tryz.prog 54 #[.slice (some ⟨b,o,none⟩) (c :: r).length cap] w fun e w'=>e=.returned (.tuple #[.agg #[.int .i64 (nextF (c :: r)).1,.string ⟨(nextF (c :: r)).2.1.toArray⟩,.int .i64 0],.bool (nextF (c :: r)).2.2])/\Below w.heap.size w w':=by
 have hbl:=(hsb.1 (by simp)).2
 have h0:w.cell? ⟨b,o,none⟩=some (.int .u8 (c.toNat:Int)):=hsb.2 0 (by simp)
 have hpos:(0:Int)<((c :: r).length:Int):=by simp
 have hba:Below w.heap.size w (w.alloc (.cells #[.int .i64 0,.string ⟨#[]⟩,.int .i64 0] 51)):=(Below.refl _ _).alloc (Nat.le_refl _) _
 have HBA:=Lh hba
 have HBX:Hid (∀ W:World,Below (w.heap.size+1) (w.alloc (.cells #[.int .i64 0,.string ⟨#[]⟩,.int .i64 0] 51)) W->W.heap[w.heap.size]?=some (.cells #[.int .i64 0,.string ⟨#[]⟩,.int .i64 0] 51 (0,0))/\Below w.heap.size w W):=fun W h=>⟨boxed h (by simp),Below.ahead h (by simp)⟩
 by_cases hs:smallB c=true
 ·have ho:ofF c=1:=by simp [ofF,hs]
  have hn:nextF (c :: r)=(1,(c :: r).takeWhile innerB,wordB ((c :: r).takeWhile innerB)):=by simp [nextF,hs]
  rw [hn]
  have HOF:=Lh (of_any c (w.alloc (.cells #[.int .i64 0,.string ⟨#[]⟩,.int .i64 0] 51)))
  rw [ho] at HOF
  have HR:=Lh (run_any 7 (.inl rfl) (c :: r) _ b o cap _ (hsb.below hba hba.size) hmax)
  have hle:=(List.takeWhile_sublist innerB (l:=c :: r)).length_le
  rw [show kindB 7=innerB from by funext x;rfl] at HR
  have HW:=Lh (fun (W:World) (h:Below w.heap.size w W)=>word_any _ _ b o cap W ((hsb.below h h.size).run innerB) (by omega))
  have HTX:=Lh (fun (W:World) (h:Below w.heap.size w W)=>((hsb.below h h.size).run innerB).text (P:=Tryz.prog) 22 5 9 Tryz.underlying22 Tryz.underlying5 Tryz.underlying9 cap)
  have hle2:((c :: r).takeWhile innerB).length<=cap:=by omega
  clear hn ho hs hba hsb hle
  generalize (c :: r).takeWhile innerB=tk at *
  generalize (c :: r).length=n at *
  generalize hkl:tk.length=tl at *
  clear hkl
  go_enter Tryz.func54,Tryz.ntmps54
  go_wp2_with (first | (go_at_call 108;refine HOF.out.mono ?_;rintro e w' ⟨rfl,rfl⟩) | (go_at_call 109;refine HR.out.mono ?_;rintro e w1 ⟨rfl,hb⟩))
  obtain ⟨z1,z2⟩:=HBX.out w1 (by simpa using hb)
  obtain ⟨f0,f1,f2,x0,x1,x2⟩:=res3 z1
  have HB:=Lh z2
  have HBD:=Lh (below_undrewY z2)
  have htx:=HTX.out w1.drew HBD.out
  have HH1:=Lh z1
  clear hb z1 z2
  go_region_with (first | (go_at_call 110;refine (HW.out _ HBD.out).mono ?_;rintro e w2 ⟨rfl,hb2⟩;have htx2:=HTX.out w2 (HBD.out.trans (hb2.mono HBD.out.size));have hlt1:=World.block_lt_of_cell? _ _ x0;obtain ⟨g0,g1,g2,y0,y1,y2⟩:=res3 ((hb2.block _ hlt1).trans HH1.out);have HB2:=Lh (HBD.out.trans (hb2.mono HBD.out.size));clear hb2))
  all_goals
   go_wp2_with fail
   refine bodyPost_ret (v:=.tuple #[.agg #[.int .i64 1,.string ⟨tk.toArray⟩,.int .i64 0],.bool (wordB tk)]) (by simp [results,Tryz.results54,go_sem, *]) rfl ?_
   exact ⟨rfl,put3_below _ _ _ HB2.out (Nat.le_refl _)⟩
 ·simp only [Bool.not_eq_true] at hs
  have hs1:=hs
  clear hs
  by_cases hs:digitB c=true
  ·have ho:ofF c=2:=by simp [ofF,hs,hs1]
   have hn:nextF (c :: r)=(2,(c :: r).takeWhile digitB,numB ((c :: r).takeWhile digitB)):=by simp [nextF,hs,hs1]
   rw [hn]
   have HOF:=Lh (of_any c (w.alloc (.cells #[.int .i64 0,.string ⟨#[]⟩,.int .i64 0] 51)))
   rw [ho] at HOF
   have HR:=Lh (run_any 2 (.inr rfl) (c :: r) _ b o cap _ (hsb.below hba hba.size) hmax)
   have hle:=(List.takeWhile_sublist digitB (l:=c :: r)).length_le
   rw [show kindB 2=digitB from by funext x;rfl] at HR
   have HW:=Lh (fun (W:World) (h:Below w.heap.size w W)=>numeral_any _ _ b o cap W ((hsb.below h h.size).run digitB) (by omega) (hg.below h))
   have HTX:=Lh (fun (W:World) (h:Below w.heap.size w W)=>((hsb.below h h.size).run digitB).text (P:=Tryz.prog) 22 5 9 Tryz.underlying22 Tryz.underlying5 Tryz.underlying9 cap)
   have hle2:((c :: r).takeWhile digitB).length<=cap:=by omega
   clear hn ho hs hs1 hba hsb hle hg
   generalize (c :: r).takeWhile digitB=tk at *
   generalize (c :: r).length=n at *
   generalize hkl:tk.length=tl at *
   clear hkl
   go_enter Tryz.func54,Tryz.ntmps54
   go_wp2_with (first | (go_at_call 108;refine HOF.out.mono ?_;rintro e w' ⟨rfl,rfl⟩) | (go_at_call 109;refine HR.out.mono ?_;rintro e w1 ⟨rfl,hb⟩))
   obtain ⟨z1,z2⟩:=HBX.out w1 (by simpa using hb)
   obtain ⟨f0,f1,f2,x0,x1,x2⟩:=res3 z1
   have HB:=Lh z2
   have HBD:=Lh (below_undrewY z2)
   have htx:=HTX.out w1.drew HBD.out
   have HH1:=Lh z1
   clear hb z1 z2
   go_region_with (first | (go_at_call 111;refine (HW.out _ HBD.out).mono ?_;rintro e w2 ⟨rfl,hb2⟩;have htx2:=HTX.out w2 (HBD.out.trans (hb2.mono HBD.out.size));have hlt1:=World.block_lt_of_cell? _ _ x0;obtain ⟨g0,g1,g2,y0,y1,y2⟩:=res3 ((hb2.block _ hlt1).trans HH1.out);have HB2:=Lh (HBD.out.trans (hb2.mono HBD.out.size));clear hb2))
   all_goals
    go_wp2_with fail
    refine bodyPost_ret (v:=.tuple #[.agg #[.int .i64 2,.string ⟨tk.toArray⟩,.int .i64 0],.bool (numB tk)]) (by simp [results,Tryz.results54,go_sem, *]) rfl ?_
    exact ⟨rfl,put3_below _ _ _ HB2.out (Nat.le_refl _)⟩
  ·simp only [Bool.not_eq_true] at hs
   have hn:nextF (c :: r)=(3,signB (c :: r),!(signB (c :: r)).isEmpty):=by simp [nextF,hs,hs1]
   rw [hn]
   have ho1:(ofF c==1)=false:=by unfold ofF;rw [hs,hs1];simp only [Bool.false_eq_true,if_false];split <;> decide
   have ho2:(ofF c==2)=false:=by unfold ofF;rw [hs,hs1];simp only [Bool.false_eq_true,if_false];split <;> decide
   have HOF:=Lh (of_any c (w.alloc (.cells #[.int .i64 0,.string ⟨#[]⟩,.int .i64 0] 51)))
   have HR:=Lh (sign_any (c :: r) _ b o cap _ (hsb.below hba hba.size) hcap hmax (hg.below hba))
   clear hn hs hs1 hba hsb hg
   generalize signB (c :: r)=tk at *
   generalize (c :: r).length=n at *
   generalize ofF c=kc at *
   go_enter Tryz.func54,Tryz.ntmps54
   go_wp2_with (first | (go_at_call 108;refine HOF.out.mono ?_;rintro e w' ⟨rfl,rfl⟩) | (go_at_call 112;refine HR.out.mono ?_;rintro e w1 ⟨rfl,hb⟩;obtain ⟨z1,z2⟩:=HBX.out w1 (by simpa using hb);obtain ⟨f0,f1,f2,x0,x1,x2⟩:=res3 z1;have HB:=Lh z2;clear hb z1 z2))
   refine bodyPost_ret (v:=.tuple #[.agg #[.int .i64 3,.string ⟨tk.toArray⟩,.int .i64 0],.bool (!tk.isEmpty)]) (by simp [results,Tryz.results54,go_sem, *]) rfl ?_
   exact ⟨rfl,put3_below _ _ _ HB.out (Nat.le_refl _)⟩
end Go.Proofs.YtpmalchlecnjbaaGreatDoor
