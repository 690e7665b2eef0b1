/- Joined texts: PWOnce. -/
import Derived.Test.YtpmalchlecnjbaaGreatDoorB42
import Derived.Test.YtpmalchlecnjbaaGreatDoorB34
set_option maxHeartbeats 8000000
set_option maxRecDepth 100000
set_option linter.unusedVariables false
set_option linter.unusedSimpArgs false
namespace Go.Chalk
theorem spaced_length:∀ l:List Bs,(spaced l).length<=(l.map List.length).sum+l.length
 | []=>by simp [spaced]
 | [t]=>by simp [spaced]
 | t :: u :: r=>by
  have:=spaced_length (u :: r)
  simp only [spaced,List.map_cons,List.sum_cons,List.length_append,List.length_cons] at this ⊢
  omega

end Go.Chalk
namespace Go.Chalk
open Go.RowKit
theorem dints_append (xs ys:List Int):dints (xs++ys)=dints xs++dints ys:=by simp [dints]
end Go.Chalk
namespace Go.Chalk
open Go.RowKit
def AllI64 (xs:List Int):Prop:=∀ x∈xs,-9223372036854775808<=x/\x<=9223372036854775807
theorem DsAt.ints {w:World} {F:Nat->Prop}:∀ {xs:List Int},AllI64 xs->DsAt w F (dints xs) (xs.map (Value.int .i64))
 | [],_=>by rw [dints,List.map_nil,DsAt];rfl
 | x :: r,h=>by
  rw [dints,List.map_cons,DsAt]
  exact ⟨[.int .i64 x],r.map (Value.int .i64),rfl,by rw [DAt];exact ⟨rfl,WalkArith.wf_i64 (h x (by simp))⟩,DsAt.ints (fun y hy=>h y (by simp [hy]))⟩
end Go.Chalk
namespace Go.Chalk
open Go.RowKit
theorem SlIn.ints {w:World} {F:Nat->Prop} {l:List Int} {x:SlA} (h:SlIn w F (dints l) x):SlAt F x.a x.b x.o l.length/\l.length<=x.cap/\x.cap<=maxLen/\AllI64 l/\∀ (i:Nat) (h:i<l.length),w.cell? ⟨x.b,x.o+i,none⟩=some (.int .i64 l[i]):=by
 have h0:DAt w F (.sl (dints l)) [x.val l.length]:=DAt.sl_iff.2 ⟨x,by simp,h⟩
 have hr:=RowAt.flat Int.flatT (show RowAt w F (l.map (D.int .i64)) x.b x.o from h.row)
 refine ⟨by simpa using h.at_,by simpa using h.le,h.max,fun n hn=>wf_i64 (hr.2 n hn),fun i hi=>?_⟩
 have:=hr.1.one i hi (c0:=.int .i64 l[i]) rfl
 simpa using this
end Go.Chalk
/- SyntaxOnce, walked. (written by tools/gen_wonce.py) -/
namespace Go.Chalk
open Go.RowKit
theorem synText_bad {f:Frm} (h:(synText f).2 ≠ 0):(synText f).1=[]:=by
 unfold synText at h ⊢
 split
 ·rfl
 ·split
  ·rfl
  ·rename_i h1 h2;rw [if_neg h1,if_neg h2] at h;exact absurd rfl h
theorem synText_good {f:Frm} (h:(synText f).2=0):synText f=(txtF f,0)/\frmCheck f=0/\(txtF f).length<=16384:=by
 unfold synText at h ⊢
 split at h
 ·rename_i h1;exact absurd h h1
 ·split at h
  ·cases h
  ·rename_i h1 h2
   rw [if_neg h1,if_neg h2]
   exact ⟨rfl,by simpa using h1,by omega⟩
end Go.Chalk
namespace Go.Proofs.YtpmalchlecnjbaaGreatDoor
open Go.RowKit Go.Chalk
attribute [local go_sem] Oper.semAt_some
theorem r6size_pos (f:Frm) (x:FrmA) (w:World) (hx:FrmIn w (·<w.heap.size) f x) (hf:f.size<=2000000):Calls Tryz.prog 17 #[.agg #[.int .i64 f.kind,.string ⟨f.name.toArray⟩,.int .i64 f.n,.slice x.t.a f.terms.length x.t.cap,.slice x.b.a f.binds.length x.b.cap,.slice x.l.a f.l.length x.l.cap]] w fun e w'=>∃ n:Int,e=.returned (.int .i64 n)/\Below w.heap.size w w':=by
 have h:=rsize_any _ f x w (Nat.le_refl _) hf hx
 simp only [ndV,FrmA.cells,SlA.val] at h
 exact h
theorem once_walk (f:Frm) (x:FrmA) (w:World) (hg:GS w) (hf:FrmFit f) (hx:FrmIn w (·<w.heap.size) f x):Calls Tryz.prog 9 #[.agg (x.cells f).toArray] w fun e w'=>e=.returned (.bool true)/\Below w.heap.size w w':=by
 have HFM:=Lh (fun (bs:Bs) (a:Option Addr) (b o cap:Nat) (W:World) (hW:Below w.heap.size w W) (h1:SB W W.heap.size bs a b o) (h2:bs.length<=cap)=>sform_any bs a b o cap W h1 h2 (hg.below hW))
 have HTX:=Lh (fun (f:Frm) (y:FrmA) (W:World) (hW:Below w.heap.size w W) (h1:FrmIn W (·<W.heap.size) f y) (h2:FrmFit f)=>stext_any f y W h1 h2 (hg.below hW))
 have HFC:=Lh (fun (f:Frm) (y:FrmA) (W:World) (hW:Below w.heap.size w W) (h1:FrmIn W (·<W.heap.size) f y) (h2:FrmFit f)=>fcheck_any f y W h1 h2 (hg.below hW).gg)
 have HLV:=Lh (fun (W:World) (hW:Below w.heap.size w W)=>live_any W (hg.below hW))
 have HF:=Lh (aI hx hf)
 have HSZ:=Lh (fun (W:World) (hW:Below w.heap.size w W)=>r6size_pos f x W (hx.later hW hW.size) hf.size)
 simp only [FrmA.cells,SlA.val]
 obtain ⟨B1,hB1⟩:∃ B1,B1=w.heap.size:=⟨_,rfl⟩
 obtain ⟨w1,hw1⟩:∃ w1,w1=w.alloc (.cells #[.int .i64 f.kind,.string ⟨f.name.toArray⟩,.int .i64 f.n,.slice x.t.a f.terms.length x.t.cap,.slice x.b.a f.binds.length x.b.cap,.slice x.l.a f.l.length x.l.cap] 28):=⟨_,rfl⟩
 have hb:Below w.heap.size w w1:=by rw [hw1];exact below_new _ _
 have hx1:w1.heap[B1]?=some (.cells #[.int .i64 f.kind,.string ⟨f.name.toArray⟩,.int .i64 f.n,.slice x.t.a f.terms.length x.t.cap,.slice x.b.a f.binds.length x.b.cap,.slice x.l.a f.l.length x.l.cap] 28 (0,0)):=by rw [hw1,hB1];exact heap_alloc_new _ _
 have KB1:=Lh hx1
 have HB1:=Lh hB1
 have HW1:=Lh hw1
 have D1:=Lh hb
 have E1:=Lh (Below.refl w1.heap.size w1)
 clear hb hx1 hB1 hw1 hx hf hg
 go_enter Tryz.func9,Tryz.ntmps9
 go_wp2_with fail
 rw [<- HW1.out,<- HB1.out]
 refine (HLV.out w1 D1.out).mono ?_
 rintro e w2 ⟨rfl,hb⟩
 have D2:=Lh (D1.out.trans (hb.mono D1.out.size))
 have E2:=Lh (E1.out.trans (hb.mono E1.out.size))
 clear hb
 have kB1:=(E2.out.block B1 (gS KB1.out).1).trans KB1.out
 have p0:w2.cell? ⟨B1,0,none⟩=some (.int .i64 f.kind):=cH kB1 rfl
 have p1:w2.cell? ⟨B1,1,none⟩=some (.string ⟨f.name.toArray⟩):=cH kB1 rfl
 have p2:w2.cell? ⟨B1,2,none⟩=some (.int .i64 f.n):=cH kB1 rfl
 have p3:w2.cell? ⟨B1,3,none⟩=some (.slice x.t.a f.terms.length x.t.cap):=cH kB1 rfl
 have p4:w2.cell? ⟨B1,4,none⟩=some (.slice x.b.a f.binds.length x.b.cap):=cH kB1 rfl
 have p5:w2.cell? ⟨B1,5,none⟩=some (.slice x.l.a f.l.length x.l.cap):=cH kB1 rfl
 clear kB1
 go_wp2_with fail
 refine (HSZ.out w2 D2.out).mono ?_
 rintro e w3 ⟨n,rfl,hb⟩
 have D3:=Lh (D2.out.trans (hb.mono D2.out.size))
 have E3:=Lh (E2.out.trans (hb.mono E2.out.size))
 clear hb
 clear p0 p1 p2 p3 p4 p5
 by_cases hbig:1000<n
 ·go_wp2_with fail
  go_ret
  exact ⟨rfl,D3.out⟩
 have hbig':decide (1000<n)=false:=decide_eq_false hbig
 clear hbig
 have kB1:=(E3.out.block B1 (gS KB1.out).1).trans KB1.out
 have p0:w3.cell? ⟨B1,0,none⟩=some (.int .i64 f.kind):=cH kB1 rfl
 have p1:w3.cell? ⟨B1,1,none⟩=some (.string ⟨f.name.toArray⟩):=cH kB1 rfl
 have p2:w3.cell? ⟨B1,2,none⟩=some (.int .i64 f.n):=cH kB1 rfl
 have p3:w3.cell? ⟨B1,3,none⟩=some (.slice x.t.a f.terms.length x.t.cap):=cH kB1 rfl
 have p4:w3.cell? ⟨B1,4,none⟩=some (.slice x.b.a f.binds.length x.b.cap):=cH kB1 rfl
 have p5:w3.cell? ⟨B1,5,none⟩=some (.slice x.l.a f.l.length x.l.cap):=cH kB1 rfl
 clear kB1
 have HT:=Lh (HTX.out f x w3 D3.out (HF.out.1.later D3.out D3.out.size) HF.out.2)
 simp only [FrmA.cells,SlA.val] at HT
 go_wp2_with fail
 refine HT.out.mono ?_
 rintro e w4 ⟨v1,rfl,hv1,hb⟩
 have D4:=Lh (D3.out.trans (hb.mono D3.out.size))
 have E4:=Lh (E3.out.trans (hb.mono E3.out.size))
 have P4:=Lh (Below.refl w4.heap.size w4)
 clear p0 p1 p2 p3 p4 p5
 clear hb HT
 obtain ⟨er,her⟩:∃ er,er=(synText f).2:=⟨_,rfl⟩
 rw [<- her]
 have HER:=Lh her
 clear her
 by_cases he:er=0
 rotate_left
 ·have he2:(er==0)=false:=by simpa using he
  have hs0:(synText f).1=[]:=synText_bad (by rw [<- HER.out];exact he)
  rw [hs0] at hv1
  obtain ⟨a,b,o,cap,rfl,_,_⟩:=hv1
  clear hs0
  go_wp2_with fail
  go_ret
  exact ⟨rfl,D4.out⟩
 subst he
 obtain ⟨hs,hfc,hlen⟩:=synText_good HER.out.symm
 rw [hs] at hv1
 simp only at hv1
 have V4:=Lh hv1
 have HS:=Lh (aI hs (aI hfc hlen))
 obtain ⟨a,b,o,cap,rfl,hsb,hcp⟩:=hv1
 have HF2:=Lh (HFM.out (txtF f) a b o cap w4 D4.out hsb hcp)
 obtain ⟨nn,hnn⟩:∃ nn,nn=(txtF f).length:=⟨_,rfl⟩
 rw [<- hnn] at HF2 ⊢
 have HNN:=Lh hnn
 clear hs hfc hlen hsb hcp hnn
 go_wp2_with fail
 refine HF2.out.mono ?_
 rintro e w5 ⟨hb,hr⟩
 rcases hr with ⟨f',y,hs,rfl,hy⟩ | ⟨n',c,hs,_⟩
 rotate_left
 ·rw [form_text HS.out.2.1 HS.out.2.2] at hs;simp at hs
 rw [form_text HS.out.2.1 HS.out.2.2] at hs
 obtain rfl:f=f':=by simpa using hs
 have D5:=Lh (D4.out.trans (hb.mono D4.out.size))
 have E5:=Lh (E4.out.trans (hb.mono E4.out.size))
 have P5:=Lh (P4.out.trans (hb.mono P4.out.size))
 have HY:=Lh (hy.mono (fun k hk=>hk.2))
 clear hb hs hy HF2
 obtain ⟨B5,hB5⟩:∃ B5,B5=w5.heap.size:=⟨_,rfl⟩
 obtain ⟨w6,hw6⟩:∃ w6,w6=w5.alloc (.cells #[.int .i64 f.kind,.string ⟨f.name.toArray⟩,.int .i64 f.n,.slice y.t.a f.terms.length y.t.cap,.slice y.b.a f.binds.length y.b.cap,.slice y.l.a f.l.length y.l.cap] 28):=⟨_,rfl⟩
 have hb:Below w5.heap.size w5 w6:=by rw [hw6];exact below_new _ _
 have hx:w6.heap[B5]?=some (.cells #[.int .i64 f.kind,.string ⟨f.name.toArray⟩,.int .i64 f.n,.slice y.t.a f.terms.length y.t.cap,.slice y.b.a f.binds.length y.b.cap,.slice y.l.a f.l.length y.l.cap] 28 (0,0)):=by rw [hw6,hB5];exact heap_alloc_new _ _
 have KB5:=Lh hx
 have HBB5:=Lh hB5
 have HW6:=Lh hw6
 have D6:=Lh (D5.out.trans (hb.mono D5.out.size))
 have E6:=Lh (E5.out.trans (hb.mono E5.out.size))
 have P6:=Lh (P5.out.trans (hb.mono P5.out.size))
 have Q6:=Lh (Below.refl w6.heap.size w6)
 have HY6:=Lh (HY.out.later hb hb.size)
 have HT2:=Lh (HTX.out f y w6 D6.out HY6.out HF.out.2)
 simp only [FrmA.cells,SlA.val] at HT2
 clear hb hx hw6 hB5
 go_wp2_with fail
 rw [<- HW6.out,<- HBB5.out]
 refine HT2.out.mono ?_
 rintro e w7 ⟨v2,rfl,hv2,hb⟩
 rw [HS.out.1] at hv2 ⊢
 simp only at hv2
 have D7:=Lh (D6.out.trans (hb.mono D6.out.size))
 have E7:=Lh (E6.out.trans (hb.mono E6.out.size))
 have P7:=Lh (P6.out.trans (hb.mono P6.out.size))
 have Q7:=Lh (Q6.out.trans (hb.mono Q6.out.size))
 have V7:=Lh hv2
 clear hb hv2 HT2
 have kB1:=(E7.out.block B1 (gS KB1.out).1).trans KB1.out
 have p0:w7.cell? ⟨B1,0,none⟩=some (.int .i64 f.kind):=cH kB1 rfl
 have p1:w7.cell? ⟨B1,1,none⟩=some (.string ⟨f.name.toArray⟩):=cH kB1 rfl
 have p2:w7.cell? ⟨B1,2,none⟩=some (.int .i64 f.n):=cH kB1 rfl
 have p3:w7.cell? ⟨B1,3,none⟩=some (.slice x.t.a f.terms.length x.t.cap):=cH kB1 rfl
 have p4:w7.cell? ⟨B1,4,none⟩=some (.slice x.b.a f.binds.length x.b.cap):=cH kB1 rfl
 have p5:w7.cell? ⟨B1,5,none⟩=some (.slice x.l.a f.l.length x.l.cap):=cH kB1 rfl
 clear kB1
 have kB5:=(Q7.out.block B5 (gS KB5.out).1).trans KB5.out
 have q0:w7.cell? ⟨B5,0,none⟩=some (.int .i64 f.kind):=cH kB5 rfl
 have q1:w7.cell? ⟨B5,1,none⟩=some (.string ⟨f.name.toArray⟩):=cH kB5 rfl
 have q2:w7.cell? ⟨B5,2,none⟩=some (.int .i64 f.n):=cH kB5 rfl
 have q3:w7.cell? ⟨B5,3,none⟩=some (.slice y.t.a f.terms.length y.t.cap):=cH kB5 rfl
 have q4:w7.cell? ⟨B5,4,none⟩=some (.slice y.b.a f.binds.length y.b.cap):=cH kB5 rfl
 have q5:w7.cell? ⟨B5,5,none⟩=some (.slice y.l.a f.l.length y.l.cap):=cH kB5 rfl
 clear kB5
 have HSM:=Lh (fsame_any _ f f w7 (Nat.le_refl _) HF.out.2 x y (HF.out.1.later D7.out D7.out.size) (HY6.out.later Q7.out Q7.out.size))
 rw [frmEq_self] at HSM
 simp only [FrmA.cells,SlA.val] at HSM
 go_wp2_with fail
 refine HSM.out.mono ?_
 rintro e w8 ⟨rfl,hb⟩
 have D8:=Lh (D7.out.trans (hb.mono D7.out.size))
 have E8:=Lh (E7.out.trans (hb.mono E7.out.size))
 have P8:=Lh (P7.out.trans (hb.mono P7.out.size))
 have Q8:=Lh (Q7.out.trans (hb.mono Q7.out.size))
 clear p0 p1 p2 p3 p4 p5
 clear q0 q1 q2 q3 q4 q5
 have kB5:=(Q8.out.block B5 (gS KB5.out).1).trans KB5.out
 have q0:w8.cell? ⟨B5,0,none⟩=some (.int .i64 f.kind):=cH kB5 rfl
 have q1:w8.cell? ⟨B5,1,none⟩=some (.string ⟨f.name.toArray⟩):=cH kB5 rfl
 have q2:w8.cell? ⟨B5,2,none⟩=some (.int .i64 f.n):=cH kB5 rfl
 have q3:w8.cell? ⟨B5,3,none⟩=some (.slice y.t.a f.terms.length y.t.cap):=cH kB5 rfl
 have q4:w8.cell? ⟨B5,4,none⟩=some (.slice y.b.a f.binds.length y.b.cap):=cH kB5 rfl
 have q5:w8.cell? ⟨B5,5,none⟩=some (.slice y.l.a f.l.length y.l.cap):=cH kB5 rfl
 clear kB5
 obtain ⟨tt,htt⟩:∃ tt:ByteArray,tt=⟨(txtF f).toArray⟩:=⟨_,rfl⟩
 have hc1:=bytesV_text (V4.out.below P8.out)
 have hc2:=bytesV_text (V7.out.below hb)
 rw [<- htt] at hc1 hc2
 rw [<- HNN.out] at hc1
 have HFK:=Lh (HFC.out f y w8 D8.out (HY6.out.later Q8.out Q8.out.size) HF.out.2)
 rw [HS.out.2.1] at HFK
 simp only [ndV,FrmA.cells,SlA.val] at HFK
 clear hb htt HSM
 go_wp2_with fail
 refine HFK.out.mono ?_
 rintro e w9 ⟨rfl,hb⟩
 have D9:=Lh (D8.out.trans (hb.mono D8.out.size))
 have E9:=Lh (E8.out.trans (hb.mono E8.out.size))
 have P9:=Lh (P8.out.trans (hb.mono P8.out.size))
 have Q9:=Lh (Q8.out.trans (hb.mono Q8.out.size))
 clear hb
 go_wp2_with fail
 go_ret
 exact ⟨rfl,D9.out⟩
end Go.Proofs.YtpmalchlecnjbaaGreatDoor
