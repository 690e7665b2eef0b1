/- Joined texts: PWOnce, PSf, PWBack. -/
import Derived.Test.YtpmalchlecnjbaaGreatDoorB42
import Derived.Test.YtpmalchlecnjbaaGreatDoorB34
import Derived.Test.YtpmalchlecnjbaaGreatDoorB40
import Derived.Test.YtpmalchlecnjbaaGreatDoorLCBack1
set_option maxHeartbeats 8000000
set_option maxRecDepth 100000
set_option linter.unusedVariables false
set_option linter.unusedSimpArgs false
/- SyntaxOnce, walked. (written by tools/gen_wonce.py) -/
namespace Go.Chalk
open Go.RowKit
theorem synText_bad {f:Frm} (h:(synText f).2 ≠ 0):(synText f).1=[]:=by
 unfold synText at h ⊢
 split
 ·rfl
 ·split
  ·rfl
  ·rename_i h1 h2;rw [if_neg h1,if_neg h2] at h;exact absurd rfl h
theorem synText_good {f:Frm} (h:(synText f).2=0):synText f=(txtF f,0)/\frmCheck f=0/\(txtF f).length<=16384:=by
 unfold synText at h ⊢
 split at h
 ·rename_i h1;exact absurd h h1
 ·split at h
  ·cases h
  ·rename_i h1 h2
   rw [if_neg h1,if_neg h2]
   exact ⟨rfl,by simpa using h1,by omega⟩
end Go.Chalk
namespace Go.Proofs.YtpmalchlecnjbaaGreatDoor
open Go.RowKit Go.Chalk
attribute [local go_sem] Oper.semAt_some
theorem r6size_pos (f:Frm) (x:FrmA) (w:World) (hx:FrmIn w (·<w.heap.size) f x) (hf:f.size<=2000000):Calls Tryz.prog 17 #[.agg #[.int .i64 f.kind,.string ⟨f.name.toArray⟩,.int .i64 f.n,.slice x.t.a f.terms.length x.t.cap,.slice x.b.a f.binds.length x.b.cap,.slice x.l.a f.l.length x.l.cap]] w fun e w'=>∃ n:Int,e=.returned (.int .i64 n)/\Below w.heap.size w w':=by
 have h:=rsize_any _ f x w (Nat.le_refl _) hf hx
 simp only [ndV,FrmA.cells,SlA.val] at h
 exact h
theorem once_walk (f:Frm) (x:FrmA) (w:World) (hg:GS w) (hf:FrmFit f) (hx:FrmIn w (·<w.heap.size) f x):Calls Tryz.prog 9 #[.agg (x.cells f).toArray] w fun e w'=>e=.returned (.bool true)/\Below w.heap.size w w':=by
 have HFM:=Lh (fun (bs:Bs) (a:Option Addr) (b o cap:Nat) (W:World) (hW:Below w.heap.size w W) (h1:SB W W.heap.size bs a b o) (h2:bs.length<=cap)=>sform_any bs a b o cap W h1 h2 (hg.below hW))
 have HTX:=Lh (fun (f:Frm) (y:FrmA) (W:World) (hW:Below w.heap.size w W) (h1:FrmIn W (·<W.heap.size) f y) (h2:FrmFit f)=>stext_any f y W h1 h2 (hg.below hW))
 have HFC:=Lh (fun (f:Frm) (y:FrmA) (W:World) (hW:Below w.heap.size w W) (h1:FrmIn W (·<W.heap.size) f y) (h2:FrmFit f)=>fcheck_any f y W h1 h2 (hg.below hW).gg)
 have HLV:=Lh (fun (W:World) (hW:Below w.heap.size w W)=>live_any W (hg.below hW))
 have HF:=Lh (aI hx hf)
 have HSZ:=Lh (fun (W:World) (hW:Below w.heap.size w W)=>r6size_pos f x W (hx.later hW hW.size) hf.size)
 simp only [FrmA.cells,SlA.val]
 obtain ⟨B1,hB1⟩:∃ B1,B1=w.heap.size:=⟨_,rfl⟩
 obtain ⟨w1,hw1⟩:∃ w1,w1=w.alloc (.cells #[.int .i64 f.kind,.string ⟨f.name.toArray⟩,.int .i64 f.n,.slice x.t.a f.terms.length x.t.cap,.slice x.b.a f.binds.length x.b.cap,.slice x.l.a f.l.length x.l.cap] 28):=⟨_,rfl⟩
 have hb:Below w.heap.size w w1:=by rw [hw1];exact below_new _ _
 have hx1:w1.heap[B1]?=some (.cells #[.int .i64 f.kind,.string ⟨f.name.toArray⟩,.int .i64 f.n,.slice x.t.a f.terms.length x.t.cap,.slice x.b.a f.binds.length x.b.cap,.slice x.l.a f.l.length x.l.cap] 28 (0,0)):=by rw [hw1,hB1];exact heap_alloc_new _ _
 have KB1:=Lh hx1
 have HB1:=Lh hB1
 have HW1:=Lh hw1
 have D1:=Lh hb
 have E1:=Lh (Below.refl w1.heap.size w1)
 clear hb hx1 hB1 hw1 hx hf hg
 go_enter Tryz.func9,Tryz.ntmps9
 go_wp2_with fail
 rw [<- HW1.out,<- HB1.out]
 refine (HLV.out w1 D1.out).mono ?_
 rintro e w2 ⟨rfl,hb⟩
 have D2:=Lh (D1.out.trans (hb.mono D1.out.size))
 have E2:=Lh (E1.out.trans (hb.mono E1.out.size))
 clear hb
 have kB1:=(E2.out.block B1 (gS KB1.out).1).trans KB1.out
 have p0:w2.cell? ⟨B1,0,none⟩=some (.int .i64 f.kind):=cH kB1 rfl
 have p1:w2.cell? ⟨B1,1,none⟩=some (.string ⟨f.name.toArray⟩):=cH kB1 rfl
 have p2:w2.cell? ⟨B1,2,none⟩=some (.int .i64 f.n):=cH kB1 rfl
 have p3:w2.cell? ⟨B1,3,none⟩=some (.slice x.t.a f.terms.length x.t.cap):=cH kB1 rfl
 have p4:w2.cell? ⟨B1,4,none⟩=some (.slice x.b.a f.binds.length x.b.cap):=cH kB1 rfl
 have p5:w2.cell? ⟨B1,5,none⟩=some (.slice x.l.a f.l.length x.l.cap):=cH kB1 rfl
 clear kB1
 go_wp2_with fail
 refine (HSZ.out w2 D2.out).mono ?_
 rintro e w3 ⟨n,rfl,hb⟩
 have D3:=Lh (D2.out.trans (hb.mono D2.out.size))
 have E3:=Lh (E2.out.trans (hb.mono E2.out.size))
 clear hb
 clear p0 p1 p2 p3 p4 p5
 by_cases hbig:1000<n
 ·go_wp2_with fail
  go_ret
  exact ⟨rfl,D3.out⟩
 have hbig':decide (1000<n)=false:=decide_eq_false hbig
 clear hbig
 have kB1:=(E3.out.block B1 (gS KB1.out).1).trans KB1.out
 have p0:w3.cell? ⟨B1,0,none⟩=some (.int .i64 f.kind):=cH kB1 rfl
 have p1:w3.cell? ⟨B1,1,none⟩=some (.string ⟨f.name.toArray⟩):=cH kB1 rfl
 have p2:w3.cell? ⟨B1,2,none⟩=some (.int .i64 f.n):=cH kB1 rfl
 have p3:w3.cell? ⟨B1,3,none⟩=some (.slice x.t.a f.terms.length x.t.cap):=cH kB1 rfl
 have p4:w3.cell? ⟨B1,4,none⟩=some (.slice x.b.a f.binds.length x.b.cap):=cH kB1 rfl
 have p5:w3.cell? ⟨B1,5,none⟩=some (.slice x.l.a f.l.length x.l.cap):=cH kB1 rfl
 clear kB1
 have HT:=Lh (HTX.out f x w3 D3.out (HF.out.1.later D3.out D3.out.size) HF.out.2)
 simp only [FrmA.cells,SlA.val] at HT
 go_wp2_with fail
 refine HT.out.mono ?_
 rintro e w4 ⟨v1,rfl,hv1,hb⟩
 have D4:=Lh (D3.out.trans (hb.mono D3.out.size))
 have E4:=Lh (E3.out.trans (hb.mono E3.out.size))
 have P4:=Lh (Below.refl w4.heap.size w4)
 clear p0 p1 p2 p3 p4 p5
 clear hb HT
 obtain ⟨er,her⟩:∃ er,er=(synText f).2:=⟨_,rfl⟩
 rw [<- her]
 have HER:=Lh her
 clear her
 by_cases he:er=0
 rotate_left
 ·have he2:(er==0)=false:=by simpa using he
  have hs0:(synText f).1=[]:=synText_bad (by rw [<- HER.out];exact he)
  rw [hs0] at hv1
  obtain ⟨a,b,o,cap,rfl,_,_⟩:=hv1
  clear hs0
  go_wp2_with fail
  go_ret
  exact ⟨rfl,D4.out⟩
 subst he
 obtain ⟨hs,hfc,hlen⟩:=synText_good HER.out.symm
 rw [hs] at hv1
 simp only at hv1
 have V4:=Lh hv1
 have HS:=Lh (aI hs (aI hfc hlen))
 obtain ⟨a,b,o,cap,rfl,hsb,hcp⟩:=hv1
 have HF2:=Lh (HFM.out (txtF f) a b o cap w4 D4.out hsb hcp)
 obtain ⟨nn,hnn⟩:∃ nn,nn=(txtF f).length:=⟨_,rfl⟩
 rw [<- hnn] at HF2 ⊢
 have HNN:=Lh hnn
 clear hs hfc hlen hsb hcp hnn
 go_wp2_with fail
 refine HF2.out.mono ?_
 rintro e w5 ⟨hb,hr⟩
 rcases hr with ⟨f',y,hs,rfl,hy⟩ | ⟨n',c,hs,_⟩
 rotate_left
 ·rw [form_text HS.out.2.1 HS.out.2.2] at hs;simp at hs
 rw [form_text HS.out.2.1 HS.out.2.2] at hs
 obtain rfl:f=f':=by simpa using hs
 have D5:=Lh (D4.out.trans (hb.mono D4.out.size))
 have E5:=Lh (E4.out.trans (hb.mono E4.out.size))
 have P5:=Lh (P4.out.trans (hb.mono P4.out.size))
 have HY:=Lh (hy.mono (fun k hk=>hk.2))
 clear hb hs hy HF2
 obtain ⟨B5,hB5⟩:∃ B5,B5=w5.heap.size:=⟨_,rfl⟩
 obtain ⟨w6,hw6⟩:∃ w6,w6=w5.alloc (.cells #[.int .i64 f.kind,.string ⟨f.name.toArray⟩,.int .i64 f.n,.slice y.t.a f.terms.length y.t.cap,.slice y.b.a f.binds.length y.b.cap,.slice y.l.a f.l.length y.l.cap] 28):=⟨_,rfl⟩
 have hb:Below w5.heap.size w5 w6:=by rw [hw6];exact below_new _ _
 have hx:w6.heap[B5]?=some (.cells #[.int .i64 f.kind,.string ⟨f.name.toArray⟩,.int .i64 f.n,.slice y.t.a f.terms.length y.t.cap,.slice y.b.a f.binds.length y.b.cap,.slice y.l.a f.l.length y.l.cap] 28 (0,0)):=by rw [hw6,hB5];exact heap_alloc_new _ _
 have KB5:=Lh hx
 have HBB5:=Lh hB5
 have HW6:=Lh hw6
 have D6:=Lh (D5.out.trans (hb.mono D5.out.size))
 have E6:=Lh (E5.out.trans (hb.mono E5.out.size))
 have P6:=Lh (P5.out.trans (hb.mono P5.out.size))
 have Q6:=Lh (Below.refl w6.heap.size w6)
 have HY6:=Lh (HY.out.later hb hb.size)
 have HT2:=Lh (HTX.out f y w6 D6.out HY6.out HF.out.2)
 simp only [FrmA.cells,SlA.val] at HT2
 clear hb hx hw6 hB5
 go_wp2_with fail
 rw [<- HW6.out,<- HBB5.out]
 refine HT2.out.mono ?_
 rintro e w7 ⟨v2,rfl,hv2,hb⟩
 rw [HS.out.1] at hv2 ⊢
 simp only at hv2
 have D7:=Lh (D6.out.trans (hb.mono D6.out.size))
 have E7:=Lh (E6.out.trans (hb.mono E6.out.size))
 have P7:=Lh (P6.out.trans (hb.mono P6.out.size))
 have Q7:=Lh (Q6.out.trans (hb.mono Q6.out.size))
 have V7:=Lh hv2
 clear hb hv2 HT2
 have kB1:=(E7.out.block B1 (gS KB1.out).1).trans KB1.out
 have p0:w7.cell? ⟨B1,0,none⟩=some (.int .i64 f.kind):=cH kB1 rfl
 have p1:w7.cell? ⟨B1,1,none⟩=some (.string ⟨f.name.toArray⟩):=cH kB1 rfl
 have p2:w7.cell? ⟨B1,2,none⟩=some (.int .i64 f.n):=cH kB1 rfl
 have p3:w7.cell? ⟨B1,3,none⟩=some (.slice x.t.a f.terms.length x.t.cap):=cH kB1 rfl
 have p4:w7.cell? ⟨B1,4,none⟩=some (.slice x.b.a f.binds.length x.b.cap):=cH kB1 rfl
 have p5:w7.cell? ⟨B1,5,none⟩=some (.slice x.l.a f.l.length x.l.cap):=cH kB1 rfl
 clear kB1
 have kB5:=(Q7.out.block B5 (gS KB5.out).1).trans KB5.out
 have q0:w7.cell? ⟨B5,0,none⟩=some (.int .i64 f.kind):=cH kB5 rfl
 have q1:w7.cell? ⟨B5,1,none⟩=some (.string ⟨f.name.toArray⟩):=cH kB5 rfl
 have q2:w7.cell? ⟨B5,2,none⟩=some (.int .i64 f.n):=cH kB5 rfl
 have q3:w7.cell? ⟨B5,3,none⟩=some (.slice y.t.a f.terms.length y.t.cap):=cH kB5 rfl
 have q4:w7.cell? ⟨B5,4,none⟩=some (.slice y.b.a f.binds.length y.b.cap):=cH kB5 rfl
 have q5:w7.cell? ⟨B5,5,none⟩=some (.slice y.l.a f.l.length y.l.cap):=cH kB5 rfl
 clear kB5
 have HSM:=Lh (fsame_any _ f f w7 (Nat.le_refl _) HF.out.2 x y (HF.out.1.later D7.out D7.out.size) (HY6.out.later Q7.out Q7.out.size))
 rw [frmEq_self] at HSM
 simp only [FrmA.cells,SlA.val] at HSM
 go_wp2_with fail
 refine HSM.out.mono ?_
 rintro e w8 ⟨rfl,hb⟩
 have D8:=Lh (D7.out.trans (hb.mono D7.out.size))
 have E8:=Lh (E7.out.trans (hb.mono E7.out.size))
 have P8:=Lh (P7.out.trans (hb.mono P7.out.size))
 have Q8:=Lh (Q7.out.trans (hb.mono Q7.out.size))
 clear p0 p1 p2 p3 p4 p5
 clear q0 q1 q2 q3 q4 q5
 have kB5:=(Q8.out.block B5 (gS KB5.out).1).trans KB5.out
 have q0:w8.cell? ⟨B5,0,none⟩=some (.int .i64 f.kind):=cH kB5 rfl
 have q1:w8.cell? ⟨B5,1,none⟩=some (.string ⟨f.name.toArray⟩):=cH kB5 rfl
 have q2:w8.cell? ⟨B5,2,none⟩=some (.int .i64 f.n):=cH kB5 rfl
 have q3:w8.cell? ⟨B5,3,none⟩=some (.slice y.t.a f.terms.length y.t.cap):=cH kB5 rfl
 have q4:w8.cell? ⟨B5,4,none⟩=some (.slice y.b.a f.binds.length y.b.cap):=cH kB5 rfl
 have q5:w8.cell? ⟨B5,5,none⟩=some (.slice y.l.a f.l.length y.l.cap):=cH kB5 rfl
 clear kB5
 obtain ⟨tt,htt⟩:∃ tt:ByteArray,tt=⟨(txtF f).toArray⟩:=⟨_,rfl⟩
 have hc1:=bytesV_text (V4.out.below P8.out)
 have hc2:=bytesV_text (V7.out.below hb)
 rw [<- htt] at hc1 hc2
 rw [<- HNN.out] at hc1
 have HFK:=Lh (HFC.out f y w8 D8.out (HY6.out.later Q8.out Q8.out.size) HF.out.2)
 rw [HS.out.2.1] at HFK
 simp only [ndV,FrmA.cells,SlA.val] at HFK
 clear hb htt HSM
 go_wp2_with fail
 refine HFK.out.mono ?_
 rintro e w9 ⟨rfl,hb⟩
 have D9:=Lh (D8.out.trans (hb.mono D8.out.size))
 have E9:=Lh (E8.out.trans (hb.mono E8.out.size))
 have P9:=Lh (P8.out.trans (hb.mono P8.out.size))
 have Q9:=Lh (Q8.out.trans (hb.mono Q8.out.size))
 clear hb
 go_wp2_with fail
 go_ret
 exact ⟨rfl,D9.out⟩
end Go.Proofs.YtpmalchlecnjbaaGreatDoor
/- The reference's Few of rules. (written by tools/gen_psf.py) -/
namespace Go.Proofs.YtpmalchlecnjbaaGreatDoor
open Go.RowKit Go.Chalk
attribute [local go_sem] Oper.semAt_some
theorem rfew7_any (l:List Rul) (x:SlA) (w:World) (hx:SlIn w (·<w.heap.size) (l.map Rul.toD) x) (hl:l.length<=2000000) (hf:∀ r∈l,RuFit r) :
  Calls Tryz.prog 23 #[.slice x.a l.length x.cap] w fun e w'=>∃ b:Bool,e=.returned (.bool b)/\Below w.heap.size w w':=by
 have gx:=hx.at_
 rw [List.length_map] at gx
 obtain ⟨n,hn⟩:∃ n,n=l.length:=⟨_,rfl⟩
 have HX:=Lh (fun (j:Nat) (hj:j<l.length)=>hx.rul j hj)
 have HFT:=Lh (fun (j:Nat) (hj:j<l.length)=>hf _ (List.getElem_mem hj))
 rw [<- hn]
 rw [<- hn] at gx hl
 have HN:=Lh hn
 clear hx hf hn
 go_enter Tryz.func23,Tryz.ntmps23
 go_wp2_with fail
 go_loopw [3,4] (fun v i wr=>∃ (j:Nat) (z:Int),j<=71/\v=.int .i64 z/\i=.int .i64 j/\Hid (Below w.heap.size w wr)) (fun _ i _=>71 - (intOf i).toNat)
 case atStart=>exact ⟨0,0,by omega,rfl,rfl,Lh (Below.refl _ _)⟩
 case round =>
  obtain ⟨j,z,hj,rfl,rfl,HB⟩:=hrel
  have hend:∀ b:Bool,∃ b':Bool,Ending.returned (.bool b)=Ending.returned (.bool b')/\Below w.heap.size w wr:=fun b=>⟨b,rfl,HB.out⟩
  have HEND:=Lh hend
  clear hend
  by_cases hlt:j<n
  rotate_left
  ·go_wp2_with fail
   go_ret
   exact HEND.out _
  by_cases h70:j<=70
  rotate_left
  ·have h70':decide ((j:Int)<=70)=false:=by simp;omega
   go_wp2_with fail
   go_ret
   exact HEND.out _
  have h70':(j:Int)<=70:=by omega
  obtain ⟨hxa,xl⟩:=gx (by omega)
  have hjl:j<l.length:=by have:=HN.out;omega
  obtain ⟨xf,hf1,hf2⟩:=HX.out j hjl
  have hxs:=hf2.agree (agree_of_below HB.out) xl
  have hft:=HFT.out j hjl
  rw [hxa]
  have HXL:=Lh (Nat.lt_of_lt_of_le xl HB.out.size)
  clear hf2 hxa
  generalize l[j]=f1 at *
  clear hjl
  have hbd:=HB.out
  have hbd2:Below w.heap.size w wr.drew:=hbd.drew
  have HSZ:=Lh (r6size_pos f1.body xf.body wr.drew (hf1.body.later hbd2 hbd2.size) hft.body.size)
  clear hft hf1 hbd hbd2
  obtain ⟨nm,hd,wt,ea,⟨k1,s1,n1,t1,b1,l1⟩⟩:=f1
  obtain ⟨ye,yb⟩:=xf
  simp only [ndV,RulA.cells,FrmA.cells,SlA.val,Frm.kind,Frm.name,Frm.n,Frm.terms,Frm.binds,Frm.l] at HSZ hxs
  have HSS:Hid (wr.drew.cell? ⟨x.b,x.o+j*10,none⟩=some (.string ⟨nm.toArray⟩)/\wr.drew.cell? ⟨x.b,x.o+j*10+1,none⟩=some (.bool hd)/\wr.drew.cell? ⟨x.b,x.o+j*10+2,none⟩=some (.int .i64 wt)/\wr.drew.cell? ⟨x.b,x.o+j*10+3,none⟩=some (.slice ye.a ea.length ye.cap)/\wr.drew.cell? ⟨x.b,x.o+j*10+4,none⟩=some (.int .i64 k1)/\wr.drew.cell? ⟨x.b,x.o+j*10+5,none⟩=some (.string ⟨s1.toArray⟩)/\wr.drew.cell? ⟨x.b,x.o+j*10+6,none⟩=some (.int .i64 n1)/\wr.drew.cell? ⟨x.b,x.o+j*10+7,none⟩=some (.slice yb.t.a t1.length yb.t.cap)/\wr.drew.cell? ⟨x.b,x.o+j*10+8,none⟩=some (.slice yb.b.a b1.length yb.b.cap)/\wr.drew.cell? ⟨x.b,x.o+j*10+9,none⟩=some (.slice yb.l.a l1.length yb.l.cap)):=Lh (by
   obtain ⟨e0,e1,e2,e3,e4,e5,e6,e7,e8,e9⟩:=hxs.ten
   exact ⟨e0,e1,e2,e3,e4,e5,e6,e7,e8,e9⟩)
  have HBS:Hid (∀ W':World,Below wr.drew.heap.size wr.drew W'->W'.cell? ⟨x.b,x.o+j*10,none⟩=some (.string ⟨nm.toArray⟩)/\W'.cell? ⟨x.b,x.o+j*10+1,none⟩=some (.bool hd)/\W'.cell? ⟨x.b,x.o+j*10+2,none⟩=some (.int .i64 wt)/\W'.cell? ⟨x.b,x.o+j*10+3,none⟩=some (.slice ye.a ea.length ye.cap)/\W'.cell? ⟨x.b,x.o+j*10+4,none⟩=some (.int .i64 k1)/\W'.cell? ⟨x.b,x.o+j*10+5,none⟩=some (.string ⟨s1.toArray⟩)/\W'.cell? ⟨x.b,x.o+j*10+6,none⟩=some (.int .i64 n1)/\W'.cell? ⟨x.b,x.o+j*10+7,none⟩=some (.slice yb.t.a t1.length yb.t.cap)/\W'.cell? ⟨x.b,x.o+j*10+8,none⟩=some (.slice yb.b.a b1.length yb.b.cap)/\W'.cell? ⟨x.b,x.o+j*10+9,none⟩=some (.slice yb.l.a l1.length yb.l.cap)):=Lh (fun W' hW=>by
   have key:∀ (p:Addr) (v:Value),wr.drew.cell? p=some v->W'.cell? p=some v:=fun p v hp=>(hW.cell (World.block_lt_of_cell? wr.drew p hp)).trans hp
   obtain ⟨e0,e1,e2,e3,e4,e5,e6,e7,e8,e9⟩:=HSS.out
   exact ⟨key _ _ e0,key _ _ e1,key _ _ e2,key _ _ e3,key _ _ e4,key _ _ e5,key _ _ e6,key _ _ e7,key _ _ e8,key _ _ e9⟩)
  clear hxs
  go_wp2_with fail
  refine wp_region_U 22 (S:=fun w'=>w'.cell? ⟨x.b,x.o+j*10,none⟩=some (.string ⟨nm.toArray⟩)/\w'.cell? ⟨x.b,x.o+j*10+1,none⟩=some (.bool hd)/\w'.cell? ⟨x.b,x.o+j*10+2,none⟩=some (.int .i64 wt)/\w'.cell? ⟨x.b,x.o+j*10+3,none⟩=some (.slice ye.a ea.length ye.cap)/\w'.cell? ⟨x.b,x.o+j*10+4,none⟩=some (.int .i64 k1)/\w'.cell? ⟨x.b,x.o+j*10+5,none⟩=some (.string ⟨s1.toArray⟩)/\w'.cell? ⟨x.b,x.o+j*10+6,none⟩=some (.int .i64 n1)/\w'.cell? ⟨x.b,x.o+j*10+7,none⟩=some (.slice yb.t.a t1.length yb.t.cap)/\w'.cell? ⟨x.b,x.o+j*10+8,none⟩=some (.slice yb.b.a b1.length yb.b.cap)/\w'.cell? ⟨x.b,x.o+j*10+9,none⟩=some (.slice yb.l.a l1.length yb.l.cap)) (by kernel_rfl) HSS.out (fun hHeld=>?_)
  refine tkU (i:=0) rfl hHeld ?_
  try simp only [Act.put,ub1,ub2,ub3]
  refine tkU (i:=1) rfl hHeld ?_
  try simp only [Act.put,ub1,ub2,ub3]
  refine tkU (i:=2) rfl hHeld ?_
  try simp only [Act.put,ub1,ub2,ub3]
  refine tkU (i:=3) rfl hHeld ?_
  try simp only [Act.put,ub1,ub2,ub3]
  refine tkU (i:=4) rfl hHeld ?_
  try simp only [Act.put,ub1,ub2,ub3]
  refine tkU (i:=5) rfl hHeld ?_
  try simp only [Act.put,ub1,ub2,ub3]
  refine tkU (i:=7) rfl hHeld ?_
  try simp only [Act.put,ub1,ub2,ub3]
  refine tkU (i:=8) rfl hHeld ?_
  try simp only [Act.put,ub1,ub2,ub3]
  refine tkU (i:=9) rfl hHeld ?_
  try simp only [Act.put,ub1,ub2,ub3]
  refine tkU (i:=10) rfl hHeld ?_
  try simp only [Act.put,ub1,ub2,ub3]
  refine tkU (i:=11) rfl hHeld ?_
  try simp only [Act.put,ub1,ub2,ub3]
  refine tkU (i:=12) rfl hHeld ?_
  try simp only [Act.put,ub1,ub2,ub3]
  refine tkU (i:=14) rfl hHeld ?_
  try simp only [Act.put,ub1,ub2,ub3]
  refine tkU (i:=15) rfl hHeld ?_
  try simp only [Act.put,ub1,ub2,ub3]
  refine tkU (i:=16) rfl hHeld ?_
  try simp only [Act.put,ub1,ub2,ub3]
  refine tkU (i:=17) rfl hHeld ?_
  try simp only [Act.put,ub1,ub2,ub3]
  refine tkU (i:=18) rfl hHeld ?_
  try simp only [Act.put,ub1,ub2,ub3]
  refine tkU (i:=19) rfl hHeld ?_
  try simp only [Act.put,ub1,ub2,ub3]
  refine ready_U (rs:=[6]) (by kernel_rfl) (by simp) ?_
  refine cons_U rfl (fun K hK=>?_) nil_U
  go_simp
  refine HSZ.out.mono ?_
  rintro e w2 ⟨sz,rfl,hb2⟩
  have HB2:=Lh hb2
  clear hb2
  go_simp
  refine hK.out _ _ ?_ (fun hHeld2=>?_)
  ·exact HBS.out w2 HB2.out
  clear hK K hHeld
  have hHeld:=hHeld2
  clear hHeld2
  try simp only [Act.put,ub1,ub2,ub3]
  refine tkU (i:=13) rfl hHeld ?_
  try simp only [Act.put,ub1,ub2,ub3]
  refine tkU (i:=20) rfl hHeld ?_
  try simp only [Act.put,ub1,ub2,ub3]
  refine tkU (i:=21) rfl hHeld ?_
  try simp only [Act.put,ub1,ub2,ub3]
  refine ready_U (rs:=[22]) (by kernel_rfl) (by simp) ?_
  refine cons_V rfl (by kernel_rfl) (fun K hK=>?_) nil_U
  go_simp
  refine hK.out _ _ ?_
  clear hK K
  try simp only [Act.put,ub1,ub2,ub3]
  refine done_U (by kernel_rfl) ?_ _
  generalize IntKind.i64.wrap (z+IntKind.i64.wrap (IntKind.i64.wrap (sz+(nm.length:Int))+(ea.length:Int)))=z2
  have hD:Below w.heap.size w w2:=(HB.out.drew).trans (HB2.out.mono HB.out.drew.size)
  have HD:=Lh hD
  clear hD
  by_cases hbig:1500<z2
  ·go_wp2_with fail
   go_ret
   exact ⟨_,rfl,HD.out⟩
  ·have hbig':decide (1500<z2)=false:=decide_eq_false hbig
   go_wp2_with fail
   exact ⟨⟨j+1,z2,by omega,rfl,by go_num,HD⟩,by simp [intOf];omega⟩
end Go.Proofs.YtpmalchlecnjbaaGreatDoor
/- SyntaxBack, walked. (written by tools/gen_wback.py) -/
namespace Go.Chalk
open Go.RowKit
theorem synPrint_ok {l:List Rul} (h:synCheck l=0):synPrint l=(txtRules l,0):=by rw [synPrint,if_neg (by rw [h];decide)]
end Go.Chalk
namespace Go.Proofs.YtpmalchlecnjbaaGreatDoor
open Go.RowKit Go.Chalk
attribute [local go_sem] Oper.semAt_some
theorem back_walk (l:List Rul) (x:SlA) (bs:Bs) (a2:Option Addr) (b2 o2 cap2:Nat) (w:World) (hg:GS w) (hx:SlIn w (·<w.heap.size) (l.map Rul.toD) x) (hll:l.length<=2000000) (hf:∀ r∈l,RuFit r) (hb0:SB w w.heap.size bs a2 b2 o2) (hc2:bs.length<=cap2) :
  Calls Tryz.prog 6 #[x.val l.length,.slice a2 bs.length cap2] w fun e w'=>e=.returned (.bool true)/\Below w.heap.size w w':=by
 simp only [SlA.val]
 have HPA:=Lh (fun (bs:Bs) (a:Option Addr) (b o cap:Nat) (W:World) (hW:Below w.heap.size w W) (h1:SB W W.heap.size bs a b o) (h2:bs.length<=cap)=>sparse_any bs a b o cap W h1 h2 (hg.below hW))
 have HCK:=Lh (fun (l:List Rul) (x:SlA) (W:World) (hW:Below w.heap.size w W) (h1:SlIn W (·<W.heap.size) (l.map Rul.toD) x) (h2:l.length<=2000000) (h3:∀ r∈l,RuFit r)=>scheck_any l x W h1 h2 h3 (hg.below hW))
 have HPR:=Lh (fun (l:List Rul) (x:SlA) (W:World) (hW:Below w.heap.size w W) (h1:SlIn W (·<W.heap.size) (l.map Rul.toD) x) (h2:l.length<=2000000) (h3:∀ r∈l,RuFit r)=>sprint_any l x W h1 h2 h3 (hg.below hW))
 have HLV:=Lh (fun (W:World) (hW:Below w.heap.size w W)=>live_any W (hg.below hW))
 have HSB:=Lh hb0
 have HL:=Lh (aI hx (aI hll hf))
 have HFW:=Lh (fun (W:World) (hW:Below w.heap.size w W)=>rfew7_any l x W (hx.later hW hW.size) hll hf)
 clear hb0 hg hx hf
 obtain ⟨c0,hc0⟩:∃ c0,c0=synCheck l:=⟨_,rfl⟩
 have HC0:=Lh hc0
 clear hc0
 go_enter Tryz.func6,Tryz.ntmps6
 go_wp2_with fail
 refine (HLV.out w (Below.refl _ _)).mono ?_
 rintro e w2 ⟨rfl,hb⟩
 have D2:=Lh hb
 clear hb
 go_wp2_with fail
 refine (HFW.out w2 D2.out).mono ?_
 rintro e w3 ⟨fw,rfl,hb⟩
 have D3:=Lh (D2.out.trans (hb.mono D2.out.size))
 clear hb HFW
 cases fw
 ·go_wp2_with fail
  go_ret
  exact ⟨rfl,D3.out⟩
 by_cases hbig:3000<bs.length
 ·have hbig':decide ((3000:Int)<(bs.length:Int))=true:=by simp;omega
  clear hbig
  go_wp2_with fail
  go_ret
  exact ⟨rfl,D3.out⟩
 have hbig':decide ((3000:Int)<(bs.length:Int))=false:=by simp;omega
 clear hbig
 have HPL:=Lh (HPR.out l x w3 D3.out (HL.out.1.later D3.out D3.out.size) HL.out.2.1 HL.out.2.2)
 go_wp2_with fail
 refine HPL.out.mono ?_
 rintro e w4 ⟨v,rfl,hv,hb⟩
 have D4:=Lh (D3.out.trans (hb.mono D3.out.size))
 clear hb HPL
 have HCL:=Lh (HCK.out l x w4 D4.out (HL.out.1.later D4.out D4.out.size) HL.out.2.1 HL.out.2.2)
 rw [<- HC0.out] at HCL
 by_cases hz0:c0=0
 rotate_left
 ·have hsp:synPrint l=([],c0):=by rw [synPrint,<- HC0.out,if_pos hz0]
  rw [hsp] at hv ⊢
  have hz0':(c0==0)=false:=by simpa using hz0
  clear hsp hv
  go_wp2_with fail
  refine HCL.out.mono ?_
  rintro e w5 ⟨rfl,hb⟩
  have D5:=Lh (D4.out.trans (hb.mono D4.out.size))
  clear hb HCL
  have HQ1:=Lh (HPA.out bs a2 b2 o2 cap2 w5 D5.out (HSB.out.below D5.out D5.out.size) hc2)
  go_wp2_with fail
  refine HQ1.out.mono ?_
  rintro e v1 ⟨hb,hr⟩
  have DV1:=Lh (D5.out.trans (hb.mono D5.out.size))
  clear hb HQ1
  rcases hr with ⟨m,z,hs,rfl,hz,hfm⟩ | ⟨n1,c1,hs,hn1,rfl⟩
  rotate_left
  ·have hc1':(c1==0)=false:=by simpa using hn1
   clear hs
   go_wp2_with fail
   go_ret
   exact ⟨rfl,DV1.out⟩
  have hck:=(parse_ok hs).1
  have HM:=Lh (aI hck (aI (hz.mono (fun k hk=>hk.2)) hfm))
  have hml:m.length<=100000:=by have:=(synCheck_zero hck).1;omega
  clear hs hz hfm hck
  have HQ2:=Lh (HPR.out m z v1 DV1.out HM.out.2.1 (by omega) HM.out.2.2)
  go_wp2_with fail
  refine HQ2.out.mono ?_
  rintro e v2 ⟨u,rfl,hu,hb⟩
  have DV2:=Lh (DV1.out.trans (hb.mono DV1.out.size))
  have BV2:=Lh hb
  rw [synPrint_ok HM.out.1] at hu ⊢
  simp only at hu
  obtain ⟨ua,ub,uo,ucap,rfl,hsb,hcp⟩:=hu
  have HQ3:=Lh (HPA.out (txtRules m) ua ub uo ucap v2 DV2.out hsb hcp)
  obtain ⟨nn,hnn⟩:∃ nn,nn=(txtRules m).length:=⟨_,rfl⟩
  rw [<- hnn] at HQ3 ⊢
  clear hb hsb hcp hnn HQ2
  go_wp2_with fail
  refine HQ3.out.mono ?_
  rintro e v3 ⟨hb,hr⟩
  have DV3:=Lh (DV2.out.trans (hb.mono DV2.out.size))
  have BV3:=Lh (BV2.out.trans (hb.mono BV2.out.size))
  clear hb HQ3
  rcases hr with ⟨m',z',hs,rfl,hz,_⟩ | ⟨n1,c1,hs,hn1,_⟩
  rotate_left
  ·rw [parse_print HM.out.1] at hs;simp at hs;exact absurd hs.2.2.symm hn1
  rw [parse_print HM.out.1] at hs
  obtain rfl:m=m':=by simpa using hs
  have HZ:=Lh (hz.mono (fun k hk=>hk.2))
  have HQ4:=Lh (HCK.out m z v3 DV3.out (HM.out.2.1.later BV3.out BV3.out.size) (by omega) HM.out.2.2)
  rw [HM.out.1] at HQ4
  clear hs hz
  go_wp2_with fail
  refine HQ4.out.mono ?_
  rintro e v4 ⟨rfl,hb⟩
  have DV4:=Lh (DV3.out.trans (hb.mono DV3.out.size))
  have HQ5:=Lh (r7same_any m m z z' v4 ((HM.out.2.1.later BV3.out BV3.out.size).later hb hb.size) (HZ.out.later hb hb.size) (by omega) HM.out.2.2)
  rw [rulsEq_self] at HQ5
  clear hb HQ4
  go_wp2_with fail
  refine HQ5.out.mono ?_
  rintro e v5 ⟨rfl,hb⟩
  have DV5:=Lh (DV4.out.trans (hb.mono DV4.out.size))
  clear hb
  go_wp2_with fail
  go_ret
  exact ⟨rfl,DV5.out⟩
 subst hz0
 have hsp:synPrint l=(txtRules l,0):=synPrint_ok HC0.out.symm
 rw [hsp] at hv ⊢
 simp only at hv
 have V4:=Lh hv
 clear hsp hv
 go_wp2_with fail
 refine HCL.out.mono ?_
 rintro e w5 ⟨rfl,hb⟩
 have D5:=Lh (D4.out.trans (hb.mono D4.out.size))
 have V5:=V4.out.below hb
 clear hb HCL
 obtain ⟨va,vb,vo,vcap,rfl,hsb,hcp⟩:=V5
 have HP3:=Lh (HPA.out (txtRules l) va vb vo vcap w5 D5.out hsb hcp)
 obtain ⟨nl,hnl⟩:∃ nl,nl=(txtRules l).length:=⟨_,rfl⟩
 rw [<- hnl] at HP3 ⊢
 clear hsb hcp hnl V4
 go_wp2_with fail
 refine HP3.out.mono ?_
 rintro e w6 ⟨hb,hr⟩
 have D6:=Lh (D5.out.trans (hb.mono D5.out.size))
 clear hb HP3
 rcases hr with ⟨l',z1,hs,rfl,hz,_⟩ | ⟨n1,c1,hs,hn1,_⟩
 rotate_left
 ·rw [parse_print HC0.out.symm] at hs;simp at hs;exact absurd hs.2.2.symm hn1
 rw [parse_print HC0.out.symm] at hs
 obtain rfl:l=l':=by simpa using hs
 have HSM:=Lh (r7same_any l l x z1 w6 (HL.out.1.later D6.out D6.out.size) (hz.mono (fun k hk=>hk.2)) HL.out.2.1 HL.out.2.2)
 rw [rulsEq_self] at HSM
 clear hs hz
 go_wp2_with fail
 refine HSM.out.mono ?_
 rintro e w7 ⟨rfl,hb⟩
 have D7:=Lh (D6.out.trans (hb.mono D6.out.size))
 clear hb HSM
 have HQ1:=Lh (HPA.out bs a2 b2 o2 cap2 w7 D7.out (HSB.out.below D7.out D7.out.size) hc2)
 go_wp2_with fail
 refine HQ1.out.mono ?_
 rintro e v1 ⟨hb,hr⟩
 have DV1:=Lh (D7.out.trans (hb.mono D7.out.size))
 clear hb HQ1
 rcases hr with ⟨m,z,hs,rfl,hz,hfm⟩ | ⟨n1,c1,hs,hn1,rfl⟩
 rotate_left
 ·have hc1':(c1==0)=false:=by simpa using hn1
  clear hs
  go_wp2_with fail
  go_ret
  exact ⟨rfl,DV1.out⟩
 have hck:=(parse_ok hs).1
 have HM:=Lh (aI hck (aI (hz.mono (fun k hk=>hk.2)) hfm))
 have hml:m.length<=100000:=by have:=(synCheck_zero hck).1;omega
 clear hs hz hfm hck
 have HQ2:=Lh (HPR.out m z v1 DV1.out HM.out.2.1 (by omega) HM.out.2.2)
 go_wp2_with fail
 refine HQ2.out.mono ?_
 rintro e v2 ⟨u,rfl,hu,hb⟩
 have DV2:=Lh (DV1.out.trans (hb.mono DV1.out.size))
 have BV2:=Lh hb
 rw [synPrint_ok HM.out.1] at hu ⊢
 simp only at hu
 obtain ⟨ua,ub,uo,ucap,rfl,hsb,hcp⟩:=hu
 have HQ3:=Lh (HPA.out (txtRules m) ua ub uo ucap v2 DV2.out hsb hcp)
 obtain ⟨nn,hnn⟩:∃ nn,nn=(txtRules m).length:=⟨_,rfl⟩
 rw [<- hnn] at HQ3 ⊢
 clear hb hsb hcp hnn HQ2
 go_wp2_with fail
 refine HQ3.out.mono ?_
 rintro e v3 ⟨hb,hr⟩
 have DV3:=Lh (DV2.out.trans (hb.mono DV2.out.size))
 have BV3:=Lh (BV2.out.trans (hb.mono BV2.out.size))
 clear hb HQ3
 rcases hr with ⟨m',z',hs,rfl,hz,_⟩ | ⟨n1,c1,hs,hn1,_⟩
 rotate_left
 ·rw [parse_print HM.out.1] at hs;simp at hs;exact absurd hs.2.2.symm hn1
 rw [parse_print HM.out.1] at hs
 obtain rfl:m=m':=by simpa using hs
 have HZ:=Lh (hz.mono (fun k hk=>hk.2))
 have HQ4:=Lh (HCK.out m z v3 DV3.out (HM.out.2.1.later BV3.out BV3.out.size) (by omega) HM.out.2.2)
 rw [HM.out.1] at HQ4
 clear hs hz
 go_wp2_with fail
 refine HQ4.out.mono ?_
 rintro e v4 ⟨rfl,hb⟩
 have DV4:=Lh (DV3.out.trans (hb.mono DV3.out.size))
 have HQ5:=Lh (r7same_any m m z z' v4 ((HM.out.2.1.later BV3.out BV3.out.size).later hb hb.size) (HZ.out.later hb hb.size) (by omega) HM.out.2.2)
 rw [rulsEq_self] at HQ5
 clear hb HQ4
 go_wp2_with fail
 refine HQ5.out.mono ?_
 rintro e v5 ⟨rfl,hb⟩
 have DV5:=Lh (DV4.out.trans (hb.mono DV4.out.size))
 clear hb
 go_wp2_with fail
 go_ret
 exact ⟨rfl,DV5.out⟩
end Go.Proofs.YtpmalchlecnjbaaGreatDoor
