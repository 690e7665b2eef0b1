/- Joined texts: PWForms. -/
import Derived.Test.YtpmalchlecnjbaaGreatDoorLCForms74
import Derived.Test.YtpmalchlecnjbaaGreatDoorV39
import Derived.Test.YtpmalchlecnjbaaGreatDoorV41
set_option maxHeartbeats 8000000
set_option maxRecDepth 100000
set_option linter.unusedVariables false
set_option linter.unusedSimpArgs false
/- SyntaxForms, walked. (written by tools/gen_wforms.py) -/
namespace Go.Proofs.YtpmalchlecnjbaaGreatDoor
open Go.RowKit Go.Chalk
attribute [local go_sem] Oper.semAt_some
theorem synForm_fit7 {b:Bs} {f:Frm} {n:Nat} {c:Int} (h:synForm b=(some f,n,c)):FrmFit f:=by
 rw [synForm_eq] at h
 split at h
 ·simp at h
 ·rename_i h0
  split at h
  ·simp at h
  ·rename_i f' l hR
   split at h
   ·simp at h
   ·split at h
    ·simp at h
    ·have h0:(tokensF b).2.2=0:=by simpa using h0
     obtain rfl:f'=f:=by simpa using congrArg (fun q=>q.1) h
     exact parF_fit hR (toks_short h0) (toks_ok h0).2.2.1
theorem frm0_fit:FrmFit (.mk 0 [] 0 [] [] []):=⟨by rw [Frm.size];simp [fsizes],fun g hg=>by
 rw [nodesF,nodesL] at hg
 simp only [List.mem_singleton] at hg
 subst hg
 refine ⟨?_,?_,?_,?_⟩ <;> simp [Frm.terms,Frm.binds,Frm.l,Frm.name]⟩
theorem forms_walk (bs:Bs) (a:Option Addr) (b o cap:Nat) (w:World) (hg:GS w) (hsb:SB w w.heap.size bs a b o) (hcap:bs.length<=cap):Calls Tryz.prog 3 #[.slice a bs.length cap] w fun e w'=>e=.returned (.bool true)/\Below w.heap.size w w':=by
 have HFM:=Lh (fun (bs:Bs) (a:Option Addr) (b o cap:Nat) (W:World) (hW:Below w.heap.size w W) (h1:SB W W.heap.size bs a b o) (h2:bs.length<=cap)=>sform_any bs a b o cap W h1 h2 (hg.below hW))
 have HLV:=Lh (fun (W:World) (hW:Below w.heap.size w W)=>live_any W (hg.below hW))
 have HSB:=Lh hsb
 clear hsb hg
 by_cases hbig:2000<bs.length
 ·have hbig':decide ((2000:Int)<(bs.length:Int))=true:=by simp;omega
  clear hbig
  go_enter Tryz.func3,Tryz.ntmps3
  go_wp2_with fail
  refine (HLV.out w (Below.refl _ _)).mono ?_
  rintro e w1 ⟨rfl,hb⟩
  have D1:=Lh hb
  clear hb
  go_wp2_with fail
  go_ret
  exact ⟨rfl,D1.out⟩
 have hbig':decide ((2000:Int)<(bs.length:Int))=false:=by simp;omega
 have hmax:bs.length<=281474976710656:=by omega
 clear hbig
 go_enter Tryz.func3,Tryz.ntmps3
 go_wp2_with fail
 refine (HLV.out w (Below.refl _ _)).mono ?_
 rintro e w2 ⟨rfl,hb⟩
 have D2:=Lh hb
 clear hb
 have HF2:=Lh (HFM.out bs a b o cap w2 D2.out (HSB.out.below D2.out D2.out.size) hcap)
 go_wp2_with fail
 refine HF2.out.mono ?_
 rintro e w3 ⟨hb,hr⟩
 have D3:=Lh (D2.out.trans (hb.mono D2.out.size))
 clear hb HF2
 rcases hr with ⟨f,x,hs,rfl,hx⟩ | ⟨n,c,hs,rfl⟩
 ·have hft:FrmFit f:=synForm_fit7 hs
  have HFT:=Lh hft
  have HS:=Lh hs
  have HX3:=Lh (hx.mono (fun k hk=>hk.2))
  clear hft hs hx
  obtain ⟨B3,hB3⟩:∃ B3,B3=w3.heap.size:=⟨_,rfl⟩
  obtain ⟨w4,hw4⟩:∃ w4,w4=w3.alloc (.cells #[.int .i64 f.kind,.string ⟨f.name.toArray⟩,.int .i64 f.n,.slice x.t.a f.terms.length x.t.cap,.slice x.b.a f.binds.length x.b.cap,.slice x.l.a f.l.length x.l.cap] 28):=⟨_,rfl⟩
  have hb:Below w3.heap.size w3 w4:=by rw [hw4];exact below_new _ _
  have hx:w4.heap[B3]?=some (.cells #[.int .i64 f.kind,.string ⟨f.name.toArray⟩,.int .i64 f.n,.slice x.t.a f.terms.length x.t.cap,.slice x.b.a f.binds.length x.b.cap,.slice x.l.a f.l.length x.l.cap] 28 (0,0)):=by rw [hw4,hB3];exact heap_alloc_new _ _
  have KB3:=Lh hx
  have HX:=Lh (HX3.out.later hb hb.size)
  have HBB3:=Lh hB3
  have HW4:=Lh hw4
  have D4:=Lh (D3.out.trans (hb.mono D3.out.size))
  have E4:=Lh (Below.refl w4.heap.size w4)
  clear hb hx hw4 hB3
  go_wp2_with fail
  rw [<- HW4.out,<- HBB3.out]
  have HR4:=Lh (rForm7_any bs a b o cap w4 (HSB.out.below D4.out D4.out.size) hcap hmax)
  refine HR4.out.mono ?_
  rintro e w5 ⟨hb,hr⟩
  have D5:=Lh (D4.out.trans (hb.mono D4.out.size))
  have E5:=Lh (E4.out.trans (hb.mono E4.out.size))
  have HB5:=Lh hb
  clear hb HR4
  rcases hr with ⟨g,y,hs,rfl,hy⟩ | ⟨n',c',hs,_⟩
  rotate_left
  ·rw [HS.out] at hs;simp at hs
  rw [HS.out] at hs
  obtain rfl:f=g:=by simpa using hs
  clear hs
  obtain ⟨B5,hB5⟩:∃ B5,B5=w5.heap.size:=⟨_,rfl⟩
  obtain ⟨w6,hw6⟩:∃ w6,w6=w5.alloc (.cells #[.int .i64 f.kind,.string ⟨f.name.toArray⟩,.int .i64 f.n,.slice y.t.a f.terms.length y.t.cap,.slice y.b.a f.binds.length y.b.cap,.slice y.l.a f.l.length y.l.cap] 28):=⟨_,rfl⟩
  have hb:Below w5.heap.size w5 w6:=by rw [hw6];exact below_new _ _
  have hx:w6.heap[B5]?=some (.cells #[.int .i64 f.kind,.string ⟨f.name.toArray⟩,.int .i64 f.n,.slice y.t.a f.terms.length y.t.cap,.slice y.b.a f.binds.length y.b.cap,.slice y.l.a f.l.length y.l.cap] 28 (0,0)):=by rw [hw6,hB5];exact heap_alloc_new _ _
  have KB5:=Lh hx
  have HBB5:=Lh hB5
  have HW6:=Lh hw6
  have D6:=Lh (D5.out.trans (hb.mono D5.out.size))
  have E6:=Lh (E5.out.trans (hb.mono E5.out.size))
  have HY:=Lh ((hy.mono (fun k hk=>hk.2)).later hb hb.size)
  clear hy
  clear hb hx hw6 hB5
  have k9:w5.heap[B3]?=some (.cells #[.int .i64 f.kind,.string ⟨f.name.toArray⟩,.int .i64 f.n,.slice x.t.a f.terms.length x.t.cap,.slice x.b.a f.binds.length x.b.cap,.slice x.l.a f.l.length x.l.cap] 28 (0,0)):=(E5.out.block B3 (gS KB3.out).1).trans KB3.out
  have hl9:=(gS k9).1
  have r0:w5.cell? ⟨B3,0,none⟩=some (.int .i64 f.kind):=cH k9 rfl
  have r1:w5.cell? ⟨B3,1,none⟩=some (.string ⟨f.name.toArray⟩):=cH k9 rfl
  have r2:w5.cell? ⟨B3,2,none⟩=some (.int .i64 f.n):=cH k9 rfl
  have r3:w5.cell? ⟨B3,3,none⟩=some (.slice x.t.a f.terms.length x.t.cap):=cH k9 rfl
  have r4:w5.cell? ⟨B3,4,none⟩=some (.slice x.b.a f.binds.length x.b.cap):=cH k9 rfl
  have r5:w5.cell? ⟨B3,5,none⟩=some (.slice x.l.a f.l.length x.l.cap):=cH k9 rfl
  have HSM:=r6same_any _ f f w6 (Nat.le_refl _) HFT.out x y (HX.out.later E6.out E6.out.size) HY.out
  rw [frmEq_self] at HSM
  simp only [FrmA.cells,SlA.val] at HSM
  have HSM:=Lh HSM
  clear k9
  go_wp2_with fail
  rw [<- HW6.out,<- HBB5.out]
  refine HSM.out.mono ?_
  rintro e w7 ⟨rfl,hb⟩
  have D7:=Lh (D6.out.trans (hb.mono D6.out.size))
  clear hb HSM
  go_wp2_with fail
  go_ret
  exact ⟨rfl,D7.out⟩
 ·have HS:=Lh hs
  clear hs
  obtain ⟨B3,hB3⟩:∃ B3,B3=w3.heap.size:=⟨_,rfl⟩
  obtain ⟨w4,hw4⟩:∃ w4,w4=w3.alloc (.cells #[.int .i64 0,.string ⟨#[]⟩,.int .i64 0,.slice none 0 0,.slice none 0 0,.slice none 0 0] 28):=⟨_,rfl⟩
  have hb:Below w3.heap.size w3 w4:=by rw [hw4];exact below_new _ _
  have hx:w4.heap[B3]?=some (.cells #[.int .i64 0,.string ⟨#[]⟩,.int .i64 0,.slice none 0 0,.slice none 0 0,.slice none 0 0] 28 (0,0)):=by rw [hw4,hB3];exact heap_alloc_new _ _
  have KB3:=Lh hx
  have HBB3:=Lh hB3
  have HW4:=Lh hw4
  have D4:=Lh (D3.out.trans (hb.mono D3.out.size))
  have E4:=Lh (Below.refl w4.heap.size w4)
  clear hb hx hw4 hB3
  go_wp2_with fail
  rw [<- HW4.out,<- HBB3.out]
  have HR4:=Lh (rForm7_any bs a b o cap w4 (HSB.out.below D4.out D4.out.size) hcap hmax)
  refine HR4.out.mono ?_
  rintro e w5 ⟨hb,hr⟩
  have D5:=Lh (D4.out.trans (hb.mono D4.out.size))
  have E5:=Lh (E4.out.trans (hb.mono E4.out.size))
  have HB5:=Lh hb
  clear hb HR4
  rcases hr with ⟨g,y,hs,_⟩ | ⟨n',c',hs,rfl⟩
  ·rw [HS.out] at hs;simp at hs
  rw [HS.out] at hs
  obtain ⟨rfl,rfl⟩:n=n'/\c=c':=by simpa using hs
  clear hs
  obtain ⟨B5,hB5⟩:∃ B5,B5=w5.heap.size:=⟨_,rfl⟩
  obtain ⟨w6,hw6⟩:∃ w6,w6=w5.alloc (.cells #[.int .i64 0,.string ⟨#[]⟩,.int .i64 0,.slice none 0 0,.slice none 0 0,.slice none 0 0] 28):=⟨_,rfl⟩
  have hb:Below w5.heap.size w5 w6:=by rw [hw6];exact below_new _ _
  have hx:w6.heap[B5]?=some (.cells #[.int .i64 0,.string ⟨#[]⟩,.int .i64 0,.slice none 0 0,.slice none 0 0,.slice none 0 0] 28 (0,0)):=by rw [hw6,hB5];exact heap_alloc_new _ _
  have KB5:=Lh hx
  have HBB5:=Lh hB5
  have HW6:=Lh hw6
  have D6:=Lh (D5.out.trans (hb.mono D5.out.size))
  have E6:=Lh (E5.out.trans (hb.mono E5.out.size))
  clear hb hx hw6 hB5
  have k9:w5.heap[B3]?=some (.cells #[.int .i64 0,.string ⟨#[]⟩,.int .i64 0,.slice none 0 0,.slice none 0 0,.slice none 0 0] 28 (0,0)):=(E5.out.block B3 (gS KB3.out).1).trans KB3.out
  have hl9:=(gS k9).1
  have r0:w5.cell? ⟨B3,0,none⟩=some (.int .i64 0):=cH k9 rfl
  have r1:w5.cell? ⟨B3,1,none⟩=some (.string ⟨#[]⟩):=cH k9 rfl
  have r2:w5.cell? ⟨B3,2,none⟩=some (.int .i64 0):=cH k9 rfl
  have r3:w5.cell? ⟨B3,3,none⟩=some (.slice none 0 0):=cH k9 rfl
  have r4:w5.cell? ⟨B3,4,none⟩=some (.slice none 0 0):=cH k9 rfl
  have r5:w5.cell? ⟨B3,5,none⟩=some (.slice none 0 0):=cH k9 rfl
  have HSM:=r6same_any _ (.mk 0 [] 0 [] [] []) (.mk 0 [] 0 [] [] []) w6 (Nat.le_refl _) frm0_fit ⟨noS,noS,noS⟩ ⟨noS,noS,noS⟩ (leaf_in' _ _ (by decide)) (leaf_in' _ _ (by decide))
  rw [frmEq_self] at HSM
  simp only [FrmA.cells,SlA.val,noS,Frm.kind,Frm.name,Frm.n,Frm.terms,Frm.binds,Frm.l,List.length_nil] at HSM
  have HSM:=Lh HSM
  clear k9
  go_wp2_with fail
  rw [<- HW6.out,<- HBB5.out]
  refine HSM.out.mono ?_
  rintro e w7 ⟨rfl,hb⟩
  have D7:=Lh (D6.out.trans (hb.mono D6.out.size))
  clear hb HSM
  go_wp2_with fail
  go_ret
  exact ⟨rfl,D7.out⟩
end Go.Proofs.YtpmalchlecnjbaaGreatDoor
