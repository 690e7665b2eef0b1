/- Joined texts: PWTexts. -/
import Derived.Test.YtpmalchlecnjbaaGreatDoorLCTexts73
set_option maxHeartbeats 8000000
set_option maxRecDepth 100000
set_option linter.unusedVariables false
set_option linter.unusedSimpArgs false
/- SyntaxTexts, walked. (written by tools/gen_wtexts.py) -/
namespace Go.Proofs.YtpmalchlecnjbaaGreatDoor
open Go.RowKit Go.Chalk
attribute [local go_sem] Oper.semAt_some
theorem texts_walk (f:Frm) (x:FrmA) (w:World) (hg:GS w) (hf:FrmFit f) (hx:FrmIn w (·<w.heap.size) f x):Calls Tryz.prog 4 #[.agg (x.cells f).toArray] w fun e w'=>e=.returned (.bool true)/\Below w.heap.size w w':=by
 have HTX:=Lh (fun (f:Frm) (y:FrmA) (W:World) (hW:Below w.heap.size w W) (h1:FrmIn W (·<W.heap.size) f y) (h2:FrmFit f)=>stext_any f y W h1 h2 (hg.below hW))
 have HLV:=Lh (fun (W:World) (hW:Below w.heap.size w W)=>live_any W (hg.below hW))
 have HF:=Lh (aI hx hf)
 have HSZ:=Lh (fun (W:World) (hW:Below w.heap.size w W)=>r6size_pos f x W (hx.later hW hW.size) hf.size)
 simp only [FrmA.cells,SlA.val]
 obtain ⟨B1,hB1⟩:∃ B1,B1=w.heap.size:=⟨_,rfl⟩
 obtain ⟨w1,hw1⟩:∃ w1,w1=w.alloc (.cells #[.int .i64 f.kind,.string ⟨f.name.toArray⟩,.int .i64 f.n,.slice x.t.a f.terms.length x.t.cap,.slice x.b.a f.binds.length x.b.cap,.slice x.l.a f.l.length x.l.cap] 28):=⟨_,rfl⟩
 have hb:Below w.heap.size w w1:=by rw [hw1];exact below_new _ _
 have hx1:w1.heap[B1]?=some (.cells #[.int .i64 f.kind,.string ⟨f.name.toArray⟩,.int .i64 f.n,.slice x.t.a f.terms.length x.t.cap,.slice x.b.a f.binds.length x.b.cap,.slice x.l.a f.l.length x.l.cap] 28 (0,0)):=by rw [hw1,hB1];exact heap_alloc_new _ _
 have KB1:=Lh hx1
 have HB1:=Lh hB1
 have HW1:=Lh hw1
 have D1:=Lh hb
 have E1:=Lh (Below.refl w1.heap.size w1)
 clear hb hx1 hB1 hw1 hx hf hg
 go_enter Tryz.func4,Tryz.ntmps4
 go_wp2_with fail
 rw [<- HW1.out,<- HB1.out]
 refine (HLV.out w1 D1.out).mono ?_
 rintro e w2 ⟨rfl,hb⟩
 have D2:=Lh (D1.out.trans (hb.mono D1.out.size))
 have E2:=Lh (E1.out.trans (hb.mono E1.out.size))
 clear hb
 have kB1:=(E2.out.block B1 (gS KB1.out).1).trans KB1.out
 have p0:w2.cell? ⟨B1,0,none⟩=some (.int .i64 f.kind):=cH kB1 rfl
 have p1:w2.cell? ⟨B1,1,none⟩=some (.string ⟨f.name.toArray⟩):=cH kB1 rfl
 have p2:w2.cell? ⟨B1,2,none⟩=some (.int .i64 f.n):=cH kB1 rfl
 have p3:w2.cell? ⟨B1,3,none⟩=some (.slice x.t.a f.terms.length x.t.cap):=cH kB1 rfl
 have p4:w2.cell? ⟨B1,4,none⟩=some (.slice x.b.a f.binds.length x.b.cap):=cH kB1 rfl
 have p5:w2.cell? ⟨B1,5,none⟩=some (.slice x.l.a f.l.length x.l.cap):=cH kB1 rfl
 clear kB1
 go_wp2_with fail
 refine (HSZ.out w2 D2.out).mono ?_
 rintro e w3 ⟨n,rfl,hb⟩
 have D3:=Lh (D2.out.trans (hb.mono D2.out.size))
 have E3:=Lh (E2.out.trans (hb.mono E2.out.size))
 clear hb
 clear p0 p1 p2 p3 p4 p5
 by_cases hbig:1000<n
 ·go_wp2_with fail
  go_ret
  exact ⟨rfl,D3.out⟩
 have hbig':decide (1000<n)=false:=decide_eq_false hbig
 clear hbig
 have kB1:=(E3.out.block B1 (gS KB1.out).1).trans KB1.out
 have p0:w3.cell? ⟨B1,0,none⟩=some (.int .i64 f.kind):=cH kB1 rfl
 have p1:w3.cell? ⟨B1,1,none⟩=some (.string ⟨f.name.toArray⟩):=cH kB1 rfl
 have p2:w3.cell? ⟨B1,2,none⟩=some (.int .i64 f.n):=cH kB1 rfl
 have p3:w3.cell? ⟨B1,3,none⟩=some (.slice x.t.a f.terms.length x.t.cap):=cH kB1 rfl
 have p4:w3.cell? ⟨B1,4,none⟩=some (.slice x.b.a f.binds.length x.b.cap):=cH kB1 rfl
 have p5:w3.cell? ⟨B1,5,none⟩=some (.slice x.l.a f.l.length x.l.cap):=cH kB1 rfl
 clear kB1
 have HT:=Lh (HTX.out f x w3 D3.out (HF.out.1.later D3.out D3.out.size) HF.out.2)
 simp only [FrmA.cells,SlA.val] at HT
 go_wp2_with fail
 refine HT.out.mono ?_
 rintro e w4 ⟨v1,rfl,hv1,hb⟩
 have D4:=Lh (D3.out.trans (hb.mono D3.out.size))
 have E4:=Lh (E3.out.trans (hb.mono E3.out.size))
 have P4:=Lh (Below.refl w4.heap.size w4)
 clear p0 p1 p2 p3 p4 p5
 have V4:=Lh hv1
 clear hb HT hv1
 have kB1:=(E4.out.block B1 (gS KB1.out).1).trans KB1.out
 have p0:w4.cell? ⟨B1,0,none⟩=some (.int .i64 f.kind):=cH kB1 rfl
 have p1:w4.cell? ⟨B1,1,none⟩=some (.string ⟨f.name.toArray⟩):=cH kB1 rfl
 have p2:w4.cell? ⟨B1,2,none⟩=some (.int .i64 f.n):=cH kB1 rfl
 have p3:w4.cell? ⟨B1,3,none⟩=some (.slice x.t.a f.terms.length x.t.cap):=cH kB1 rfl
 have p4:w4.cell? ⟨B1,4,none⟩=some (.slice x.b.a f.binds.length x.b.cap):=cH kB1 rfl
 have p5:w4.cell? ⟨B1,5,none⟩=some (.slice x.l.a f.l.length x.l.cap):=cH kB1 rfl
 clear kB1
 have HT2:=Lh (rText_any f x w4 (HF.out.1.later D4.out D4.out.size) HF.out.2)
 go_wp2_with fail
 refine HT2.out.mono ?_
 rintro e w5 ⟨v2,rfl,hv2,hb⟩
 have D5:=Lh (D4.out.trans (hb.mono D4.out.size))
 have E5:=Lh (E4.out.trans (hb.mono E4.out.size))
 have P5:=Lh (P4.out.trans (hb.mono P4.out.size))
 clear p0 p1 p2 p3 p4 p5
 obtain ⟨tt,htt⟩:∃ tt:ByteArray,tt=⟨(synText f).1.toArray⟩:=⟨_,rfl⟩
 have hc1:=bytesV_text (V4.out.below P5.out)
 have hc2:=bytesV_text hv2
 rw [<- htt] at hc1 hc2
 generalize (synText f).2=er
 clear hb htt HT2 hv2
 go_wp2_with fail
 go_ret
 exact ⟨rfl,D5.out⟩
end Go.Proofs.YtpmalchlecnjbaaGreatDoor
