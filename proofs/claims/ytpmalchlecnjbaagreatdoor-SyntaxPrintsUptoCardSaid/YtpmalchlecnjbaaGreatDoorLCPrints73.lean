/- Joined texts: PWOnce, PSf, RXa, RXb, RXc, RXd. -/
import Derived.Test.YtpmalchlecnjbaaGreatDoorU41
import Derived.Test.YtpmalchlecnjbaaGreatDoorU34
import Derived.Test.YtpmalchlecnjbaaGreatDoorU39
import Derived.Test.YtpmalchlecnjbaaGreatDoorU08
import Derived.Test.YtpmalchlecnjbaaGreatDoorU35
import Derived.Test.YtpmalchlecnjbaaGreatDoorU07
set_option maxHeartbeats 8000000
set_option maxRecDepth 100000
set_option linter.unusedVariables false
set_option linter.unusedSimpArgs false
/- SyntaxOnce, walked. (written by tools/gen_wonce.py) -/
namespace Go.Chalk
open Go.RowKit
end Go.Chalk
namespace Go.Proofs.YtpmalchlecnjbaaGreatDoor
open Go.RowKit Go.Chalk
attribute [local go_sem] Oper.semAt_some
theorem r6size_pos (f:Frm) (x:FrmA) (w:World) (hx:FrmIn w (·<w.heap.size) f x) (hf:f.size<=2000000):Calls Tryz.prog 17 #[.agg #[.int .i64 f.kind,.string ⟨f.name.toArray⟩,.int .i64 f.n,.slice x.t.a f.terms.length x.t.cap,.slice x.b.a f.binds.length x.b.cap,.slice x.l.a f.l.length x.l.cap]] w fun e w'=>∃ n:Int,e=.returned (.int .i64 n)/\Below w.heap.size w w':=by
 have h:=rsize_any _ f x w (Nat.le_refl _) hf hx
 simp only [ndV,FrmA.cells,SlA.val] at h
 exact h
end Go.Proofs.YtpmalchlecnjbaaGreatDoor
/- The reference's Few of rules. (written by tools/gen_psf.py) -/
namespace Go.Proofs.YtpmalchlecnjbaaGreatDoor
open Go.RowKit Go.Chalk
attribute [local go_sem] Oper.semAt_some
theorem rfew7_any (l:List Rul) (x:SlA) (w:World) (hx:SlIn w (·<w.heap.size) (l.map Rul.toD) x) (hl:l.length<=2000000) (hf:∀ r∈l,RuFit r) :
  Calls Tryz.prog 23 #[.slice x.a l.length x.cap] w fun e w'=>∃ b:Bool,e=.returned (.bool b)/\Below w.heap.size w w':=by
 have gx:=hx.at_
 rw [List.length_map] at gx
 obtain ⟨n,hn⟩:∃ n,n=l.length:=⟨_,rfl⟩
 have HX:=Lh (fun (j:Nat) (hj:j<l.length)=>hx.rul j hj)
 have HFT:=Lh (fun (j:Nat) (hj:j<l.length)=>hf _ (List.getElem_mem hj))
 rw [<- hn]
 rw [<- hn] at gx hl
 have HN:=Lh hn
 clear hx hf hn
 go_enter Tryz.func23,Tryz.ntmps23
 go_wp2_with fail
 go_loopw [3,4] (fun v i wr=>∃ (j:Nat) (z:Int),j<=71/\v=.int .i64 z/\i=.int .i64 j/\Hid (Below w.heap.size w wr)) (fun _ i _=>71 - (intOf i).toNat)
 case atStart=>exact ⟨0,0,by omega,rfl,rfl,Lh (Below.refl _ _)⟩
 case round =>
  obtain ⟨j,z,hj,rfl,rfl,HB⟩:=hrel
  have hend:∀ b:Bool,∃ b':Bool,Ending.returned (.bool b)=Ending.returned (.bool b')/\Below w.heap.size w wr:=fun b=>⟨b,rfl,HB.out⟩
  have HEND:=Lh hend
  clear hend
  by_cases hlt:j<n
  rotate_left
  ·go_wp2_with fail
   go_ret
   exact HEND.out _
  by_cases h70:j<=70
  rotate_left
  ·have h70':decide ((j:Int)<=70)=false:=by simp;omega
   go_wp2_with fail
   go_ret
   exact HEND.out _
  have h70':(j:Int)<=70:=by omega
  obtain ⟨hxa,xl⟩:=gx (by omega)
  have hjl:j<l.length:=by have:=HN.out;omega
  obtain ⟨xf,hf1,hf2⟩:=HX.out j hjl
  have hxs:=hf2.agree (agree_of_below HB.out) xl
  have hft:=HFT.out j hjl
  rw [hxa]
  have HXL:=Lh (Nat.lt_of_lt_of_le xl HB.out.size)
  clear hf2 hxa
  generalize l[j]=f1 at *
  clear hjl
  have hbd:=HB.out
  have hbd2:Below w.heap.size w wr.drew:=hbd.drew
  have HSZ:=Lh (r6size_pos f1.body xf.body wr.drew (hf1.body.later hbd2 hbd2.size) hft.body.size)
  clear hft hf1 hbd hbd2
  obtain ⟨nm,hd,wt,ea,⟨k1,s1,n1,t1,b1,l1⟩⟩:=f1
  obtain ⟨ye,yb⟩:=xf
  simp only [ndV,RulA.cells,FrmA.cells,SlA.val,Frm.kind,Frm.name,Frm.n,Frm.terms,Frm.binds,Frm.l] at HSZ hxs
  have HSS:Hid (wr.drew.cell? ⟨x.b,x.o+j*10,none⟩=some (.string ⟨nm.toArray⟩)/\wr.drew.cell? ⟨x.b,x.o+j*10+1,none⟩=some (.bool hd)/\wr.drew.cell? ⟨x.b,x.o+j*10+2,none⟩=some (.int .i64 wt)/\wr.drew.cell? ⟨x.b,x.o+j*10+3,none⟩=some (.slice ye.a ea.length ye.cap)/\wr.drew.cell? ⟨x.b,x.o+j*10+4,none⟩=some (.int .i64 k1)/\wr.drew.cell? ⟨x.b,x.o+j*10+5,none⟩=some (.string ⟨s1.toArray⟩)/\wr.drew.cell? ⟨x.b,x.o+j*10+6,none⟩=some (.int .i64 n1)/\wr.drew.cell? ⟨x.b,x.o+j*10+7,none⟩=some (.slice yb.t.a t1.length yb.t.cap)/\wr.drew.cell? ⟨x.b,x.o+j*10+8,none⟩=some (.slice yb.b.a b1.length yb.b.cap)/\wr.drew.cell? ⟨x.b,x.o+j*10+9,none⟩=some (.slice yb.l.a l1.length yb.l.cap)):=Lh (by
   obtain ⟨e0,e1,e2,e3,e4,e5,e6,e7,e8,e9⟩:=hxs.ten
   exact ⟨e0,e1,e2,e3,e4,e5,e6,e7,e8,e9⟩)
  have HBS:Hid (∀ W':World,Below wr.drew.heap.size wr.drew W'->W'.cell? ⟨x.b,x.o+j*10,none⟩=some (.string ⟨nm.toArray⟩)/\W'.cell? ⟨x.b,x.o+j*10+1,none⟩=some (.bool hd)/\W'.cell? ⟨x.b,x.o+j*10+2,none⟩=some (.int .i64 wt)/\W'.cell? ⟨x.b,x.o+j*10+3,none⟩=some (.slice ye.a ea.length ye.cap)/\W'.cell? ⟨x.b,x.o+j*10+4,none⟩=some (.int .i64 k1)/\W'.cell? ⟨x.b,x.o+j*10+5,none⟩=some (.string ⟨s1.toArray⟩)/\W'.cell? ⟨x.b,x.o+j*10+6,none⟩=some (.int .i64 n1)/\W'.cell? ⟨x.b,x.o+j*10+7,none⟩=some (.slice yb.t.a t1.length yb.t.cap)/\W'.cell? ⟨x.b,x.o+j*10+8,none⟩=some (.slice yb.b.a b1.length yb.b.cap)/\W'.cell? ⟨x.b,x.o+j*10+9,none⟩=some (.slice yb.l.a l1.length yb.l.cap)):=Lh (fun W' hW=>by
   have key:∀ (p:Addr) (v:Value),wr.drew.cell? p=some v->W'.cell? p=some v:=fun p v hp=>(hW.cell (World.block_lt_of_cell? wr.drew p hp)).trans hp
   obtain ⟨e0,e1,e2,e3,e4,e5,e6,e7,e8,e9⟩:=HSS.out
   exact ⟨key _ _ e0,key _ _ e1,key _ _ e2,key _ _ e3,key _ _ e4,key _ _ e5,key _ _ e6,key _ _ e7,key _ _ e8,key _ _ e9⟩)
  clear hxs
  go_wp2_with fail
  refine wp_region_U 22 (S:=fun w'=>w'.cell? ⟨x.b,x.o+j*10,none⟩=some (.string ⟨nm.toArray⟩)/\w'.cell? ⟨x.b,x.o+j*10+1,none⟩=some (.bool hd)/\w'.cell? ⟨x.b,x.o+j*10+2,none⟩=some (.int .i64 wt)/\w'.cell? ⟨x.b,x.o+j*10+3,none⟩=some (.slice ye.a ea.length ye.cap)/\w'.cell? ⟨x.b,x.o+j*10+4,none⟩=some (.int .i64 k1)/\w'.cell? ⟨x.b,x.o+j*10+5,none⟩=some (.string ⟨s1.toArray⟩)/\w'.cell? ⟨x.b,x.o+j*10+6,none⟩=some (.int .i64 n1)/\w'.cell? ⟨x.b,x.o+j*10+7,none⟩=some (.slice yb.t.a t1.length yb.t.cap)/\w'.cell? ⟨x.b,x.o+j*10+8,none⟩=some (.slice yb.b.a b1.length yb.b.cap)/\w'.cell? ⟨x.b,x.o+j*10+9,none⟩=some (.slice yb.l.a l1.length yb.l.cap)) (by kernel_rfl) HSS.out (fun hHeld=>?_)
  refine tkU (i:=0) rfl hHeld ?_
  try simp only [Act.put,ub1,ub2,ub3]
  refine tkU (i:=1) rfl hHeld ?_
  try simp only [Act.put,ub1,ub2,ub3]
  refine tkU (i:=2) rfl hHeld ?_
  try simp only [Act.put,ub1,ub2,ub3]
  refine tkU (i:=3) rfl hHeld ?_
  try simp only [Act.put,ub1,ub2,ub3]
  refine tkU (i:=4) rfl hHeld ?_
  try simp only [Act.put,ub1,ub2,ub3]
  refine tkU (i:=5) rfl hHeld ?_
  try simp only [Act.put,ub1,ub2,ub3]
  refine tkU (i:=7) rfl hHeld ?_
  try simp only [Act.put,ub1,ub2,ub3]
  refine tkU (i:=8) rfl hHeld ?_
  try simp only [Act.put,ub1,ub2,ub3]
  refine tkU (i:=9) rfl hHeld ?_
  try simp only [Act.put,ub1,ub2,ub3]
  refine tkU (i:=10) rfl hHeld ?_
  try simp only [Act.put,ub1,ub2,ub3]
  refine tkU (i:=11) rfl hHeld ?_
  try simp only [Act.put,ub1,ub2,ub3]
  refine tkU (i:=12) rfl hHeld ?_
  try simp only [Act.put,ub1,ub2,ub3]
  refine tkU (i:=14) rfl hHeld ?_
  try simp only [Act.put,ub1,ub2,ub3]
  refine tkU (i:=15) rfl hHeld ?_
  try simp only [Act.put,ub1,ub2,ub3]
  refine tkU (i:=16) rfl hHeld ?_
  try simp only [Act.put,ub1,ub2,ub3]
  refine tkU (i:=17) rfl hHeld ?_
  try simp only [Act.put,ub1,ub2,ub3]
  refine tkU (i:=18) rfl hHeld ?_
  try simp only [Act.put,ub1,ub2,ub3]
  refine tkU (i:=19) rfl hHeld ?_
  try simp only [Act.put,ub1,ub2,ub3]
  refine ready_U (rs:=[6]) (by kernel_rfl) (by simp) ?_
  refine cons_U rfl (fun K hK=>?_) nil_U
  go_simp
  refine HSZ.out.mono ?_
  rintro e w2 ⟨sz,rfl,hb2⟩
  have HB2:=Lh hb2
  clear hb2
  go_simp
  refine hK.out _ _ ?_ (fun hHeld2=>?_)
  ·exact HBS.out w2 HB2.out
  clear hK K hHeld
  have hHeld:=hHeld2
  clear hHeld2
  try simp only [Act.put,ub1,ub2,ub3]
  refine tkU (i:=13) rfl hHeld ?_
  try simp only [Act.put,ub1,ub2,ub3]
  refine tkU (i:=20) rfl hHeld ?_
  try simp only [Act.put,ub1,ub2,ub3]
  refine tkU (i:=21) rfl hHeld ?_
  try simp only [Act.put,ub1,ub2,ub3]
  refine ready_U (rs:=[22]) (by kernel_rfl) (by simp) ?_
  refine cons_V rfl (by kernel_rfl) (fun K hK=>?_) nil_U
  go_simp
  refine hK.out _ _ ?_
  clear hK K
  try simp only [Act.put,ub1,ub2,ub3]
  refine done_U (by kernel_rfl) ?_ _
  generalize IntKind.i64.wrap (z+IntKind.i64.wrap (IntKind.i64.wrap (sz+(nm.length:Int))+(ea.length:Int)))=z2
  have hD:Below w.heap.size w w2:=(HB.out.drew).trans (HB2.out.mono HB.out.drew.size)
  have HD:=Lh hD
  clear hD
  by_cases hbig:1500<z2
  ·go_wp2_with fail
   go_ret
   exact ⟨_,rfl,HD.out⟩
  ·have hbig':decide (1500<z2)=false:=decide_eq_false hbig
   go_wp2_with fail
   exact ⟨⟨j+1,z2,by omega,rfl,by go_num,HD⟩,by simp [intOf];omega⟩
end Go.Proofs.YtpmalchlecnjbaaGreatDoor
/- The reference's digits, level. -/
namespace Go.Chalk
theorem bs_app (x y:Bs):((⟨x.toArray⟩:ByteArray)++⟨y.toArray⟩)=⟨(x++y).toArray⟩:=by
 apply ByteArray.ext
 rw [ByteArray.data_append]
 simp
theorem dec_len:∀ (m n:Nat),n<=m->(Lib.decDigits n).length<=n+1
 | m,n,hm=>by
  by_cases h:n<10
  ·rw [Lib.decDigits_one h];simp
  ·rw [Lib.decDigits,dif_neg h]
   obtain ⟨k,rfl⟩:∃ k,m=k+1:=⟨m - 1,by omega⟩
   have:=dec_len k (n / 10) (by omega)
   simp only [List.length_append,List.length_cons,List.length_nil]
   omega
end Go.Chalk
namespace Go.Proofs.YtpmalchlecnjbaaGreatDoor
open Go.RowKit Go.Chalk
attribute [local go_sem] Oper.semAt_some bs_app
theorem one_byte (W:World) (n:Nat) (hn:n<10):(convert 22 9 (.slice (some ⟨W.heap.size,0,none⟩) 1 1)).run Tryz.prog (W.alloc (.cells #[.int .u8 (48+(n:Int))] 5))=.ok (.string ⟨(Lib.decDigits n).toArray⟩) (W.alloc (.cells #[.int .u8 (48+(n:Int))] 5)):=by
 rw [Lib.decDigits_one hn]
 have h:SB (W.alloc (.cells #[.int .u8 (48+(n:Int))] 5)) (W.alloc (.cells #[.int .u8 (48+(n:Int))] 5)).heap.size [UInt8.ofNat (48+n)] (some ⟨W.heap.size,0,none⟩) W.heap.size 0:=by
  refine ⟨fun _=>⟨rfl,(gS (heap_alloc_new W (.cells #[.int .u8 (48+(n:Int))] 5))).1⟩,fun i hi=>?_⟩
  have h0:i=0:=by simp at hi;omega
  subst h0
  have hk:=cH (i:=0) (heap_alloc_new W (.cells #[.int .u8 (48+(n:Int))] 5)) (v:=.int .u8 (48+(n:Int))) rfl
  rw [show 0+0=0 from rfl,hk]
  have:(UInt8.ofNat (48+n)).toNat=48+n:=by simp;omega
  simp only [List.getElem_cons_zero,this]
  rfl
 exact h.text (P:=Tryz.prog) 22 5 9 Tryz.underlying22 Tryz.underlying5 Tryz.underlying9 1
theorem rdigits_any:∀ (m n:Nat) (w:World),n<=m->n<=9223372036854775807->Calls Tryz.prog 94 #[.int .i64 (n:Int)] w fun e w'=>e=.returned (.string ⟨(Lib.decDigits n).toArray⟩)/\Below w.heap.size w w'
 | m,n,w,hm,hn=>by
  by_cases h10:n<10
  ·have h1:decide ((n:Int)<10)=true:=by simp;omega
   have h2:IntKind.u8.wrap (n:Int)=(n:Int):=by
    unfold IntKind.wrap;simp [IntKind.bits,IntKind.signed];omega
   have h3:IntKind.u8.wrap (48+(n:Int))=48+(n:Int):=by
    unfold IntKind.wrap;simp [IntKind.bits,IntKind.signed];omega
   have hcv:=one_byte w n h10
   have hb:=below_new w (.cells #[.int .u8 (48+(n:Int))] 5)
   clear h10 hm hn
   go_enter Tryz.func94,Tryz.ntmps94
   go_wp2_with fail
   go_ret
   exact ⟨rfl,hb⟩
  ·obtain ⟨k,rfl⟩:∃ k,m=k+1:=⟨m - 1,by omega⟩
   have h1:decide ((n:Int)<10)=false:=by simp;omega
   have hq:((n:Int).tdiv 10)=((n / 10:Nat):Int):=rfl
   have hr:((n:Int).tmod 10)=((n % 10:Nat):Int):=rfl
   have H1:=Lh (fun W=>rdigits_any k (n / 10) W (by omega) (by omega))
   have H2:=Lh (fun W=>rdigits_any k (n % 10) W (by omega) (by omega))
   have hd:Lib.decDigits n=Lib.decDigits (n / 10)++Lib.decDigits (n % 10):=by
    rw [Lib.decDigits,dif_neg h10,Lib.decDigits_one (i:=n % 10) (by omega)]
   rw [hd]
   obtain ⟨a,ha⟩:∃ a,a=n / 10:=⟨_,rfl⟩
   obtain ⟨b,hb⟩:∃ b,b=n % 10:=⟨_,rfl⟩
   have hsz:¬ 9223372036854775807<(Lib.decDigits (n / 10)).length+(Lib.decDigits (n % 10)).length:=by
    have e1:=dec_len _ (n / 10) (Nat.le_refl _)
    have e2:=dec_len _ (n % 10) (Nat.le_refl _)
    omega
   have hwa:wrap64 (a:Int)=(a:Int):=IntWalk.wrap64_in _ (by omega)
   rw [<- ha] at hq H1 hsz ⊢
   rw [<- hb] at hr H2 hsz ⊢
   clear h10 hm hn hd ha hb
   go_enter Tryz.func94,Tryz.ntmps94
   go_wp2_with fail
   refine (H1.out _).mono ?_
   rintro e w1 ⟨rfl,hb1⟩
   have D1:=Lh hb1
   clear hb1
   go_wp2_with fail
   refine (H2.out _).mono ?_
   rintro e w2 ⟨rfl,hb2⟩
   have D2:=Lh (D1.out.trans (hb2.mono D1.out.size))
   clear hb2
   go_wp2_with fail
   go_ret
   exact ⟨rfl,D2.out⟩
end Go.Proofs.YtpmalchlecnjbaaGreatDoor
/- The reference's level, lists of words, term. (written by tools/gen_rxb.py) -/
namespace Go.Chalk
def levK (k:Int):Int:=if k=13 then 0 else if k=12 then 1 else if k=11 then 2 else 3
end Go.Chalk
namespace Go.Proofs.YtpmalchlecnjbaaGreatDoor
open Go.RowKit Go.Chalk
attribute [local go_sem] Oper.semAt_some bs_app
theorem rlevel_any (k:Int) (s:ByteArray) (n:Int) (a b c:Value) (w:World):Calls Tryz.prog 148 #[.agg #[.int .i64 k,.string s,.int .i64 n,a,b,c]] w fun e w'=>e=.returned (.int .i64 (levK k))/\Below w.heap.size w w':=by
 have hb:=Lh (below_new w (.cells #[.int .i64 k,.string s,.int .i64 n,a,b,c] 28))
 unfold levK
 by_cases h1:k=13
 ·subst h1
  go_enter Tryz.func148,Tryz.ntmps148
  go_wp2_with fail
  go_ret
  exact ⟨rfl,hb.out⟩
 by_cases h2:k=12
 ·subst h2
  clear h1
  go_enter Tryz.func148,Tryz.ntmps148
  go_wp2_with fail
  go_ret
  exact ⟨rfl,hb.out⟩
 by_cases h3:k=11
 ·subst h3
  clear h1 h2
  go_enter Tryz.func148,Tryz.ntmps148
  go_wp2_with fail
  go_ret
  exact ⟨rfl,hb.out⟩
 have e1:(k==13)=false:=by simpa using h1
 have e2:(k==12)=false:=by simpa using h2
 have e3:(k==11)=false:=by simpa using h3
 rw [if_neg h1,if_neg h2,if_neg h3]
 clear h1 h2 h3
 go_enter Tryz.func148,Tryz.ntmps148
 go_wp2_with fail
 go_ret
 exact ⟨rfl,hb.out⟩
theorem rterms_any (w:World):Calls Tryz.prog 147 #[] w fun e w'=>∃ b:Nat,e=.returned (.slice (some ⟨b,0,none⟩) 5 5)/\(∀ j:Nat,j<5->w'.cell? ⟨b,j,none⟩=some (.string ⟨(kwOf kwTerm ((j:Int)+3)).toArray⟩))/\Below w.heap.size w w':=by
 go_enter Tryz.func147,Tryz.ntmps147
 go_wp2_with fail
 go_ret
 refine ⟨_,rfl,fun j hj=>?_,below_new _ _⟩
 have h:j=0∨j=1∨j=2∨j=3∨j=4:=by omega
 rcases h with rfl | rfl | rfl | rfl | rfl <;> exact cH (heap_alloc_new w _) rfl
theorem rsorts_any (w:World):Calls Tryz.prog 149 #[] w fun e w'=>∃ b:Nat,e=.returned (.slice (some ⟨b,0,none⟩) 8 8)/\(∀ j:Nat,j<8->w'.cell? ⟨b,j,none⟩=some (.string ⟨(kwOf kwSort ((j:Int)+0)).toArray⟩))/\Below w.heap.size w w':=by
 go_enter Tryz.func149,Tryz.ntmps149
 go_wp2_with fail
 go_ret
 refine ⟨_,rfl,fun j hj=>?_,below_new _ _⟩
 have h:j=0∨j=1∨j=2∨j=3∨j=4∨j=5∨j=6∨j=7:=by omega
 rcases h with rfl | rfl | rfl | rfl | rfl | rfl | rfl | rfl <;> exact cH (heap_alloc_new w _) rfl
theorem rpreds_any (w:World):Calls Tryz.prog 95 #[] w fun e w'=>∃ b:Nat,e=.returned (.slice (some ⟨b,0,none⟩) 6 6)/\(∀ j:Nat,j<6->w'.cell? ⟨b,j,none⟩=some (.string ⟨(kwOf kwAtom ((j:Int)+3)).toArray⟩))/\Below w.heap.size w w':=by
 go_enter Tryz.func95,Tryz.ntmps95
 go_wp2_with fail
 go_ret
 refine ⟨_,rfl,fun j hj=>?_,below_new _ _⟩
 have h:j=0∨j=1∨j=2∨j=3∨j=4∨j=5:=by omega
 rcases h with rfl | rfl | rfl | rfl | rfl | rfl <;> exact cH (heap_alloc_new w _) rfl
theorem rterm_any (t:Trm) (w:World) (ht:termedF t=true):Calls Tryz.prog 91 #[.agg #[.int .i64 t.kind,.string ⟨t.name.toArray⟩,.int .i64 t.n]] w fun e w'=>e=.returned (.string ⟨(txtTerm t).toArray⟩)/\Below w.heap.size w w':=by
 obtain ⟨k,s,n⟩:=t
 unfold termedF at ht
 unfold txtTerm
 simp only at ht ⊢
 have HB:=Lh (below_new w (.cells #[.int .i64 k,.string ⟨s.toArray⟩,.int .i64 n] 61))
 by_cases h1:k=1
 ·rw [if_pos h1] at ht ⊢
  subst h1
  simp only [numberB,Bool.and_eq_true,decide_eq_true_eq] at ht
  obtain ⟨m,rfl⟩:=Int.eq_ofNat_of_zero_le ht.2.1
  have HD:=Lh (fun W=>rdigits_any m m W (Nat.le_refl _) (by omega))
  rw [show decI (m:Int)=Lib.decDigits m from rfl]
  clear ht
  go_enter Tryz.func91,Tryz.ntmps91
  go_wp2_with fail
  refine (HD.out _).mono ?_
  rintro e w1 ⟨rfl,hb⟩
  have D1:=Lh (HB.out.trans (hb.mono HB.out.size))
  clear hb
  go_wp2_with fail
  go_ret
  exact ⟨rfl,D1.out⟩
 rw [if_neg h1] at ht ⊢
 by_cases h2:k=2
 ·rw [if_pos h2]
  subst h2
  clear ht h1
  go_enter Tryz.func91,Tryz.ntmps91
  go_wp2_with fail
  go_ret
  exact ⟨rfl,HB.out⟩
 rw [if_neg h2]
 simp only [Bool.and_eq_true,decide_eq_true_eq] at ht
 obtain ⟨⟨⟨ha,hb'⟩,hnm⟩,rfl⟩:=ht
 have hln:=named_len hnm
 obtain ⟨j,rfl⟩:∃ j:Nat,k=(j:Int)+3:=⟨(k - 3).toNat,by omega⟩
 have hj5:j<5:=by omega
 have e1:(((j:Int)+3)==1)=false:=by simp;omega
 have e2:(((j:Int)+3)==2)=false:=by simp;omega
 have hlk:=kwTerm_len ((j:Int)+3)
 obtain ⟨wd,hwd⟩:∃ wd,kwOf kwTerm ((j:Int)+3)=wd:=⟨_,rfl⟩
 rw [hwd] at hlk
 have HWD:=Lh hwd
 obtain ⟨s1,hs1⟩:∃ s1,wd++[40]=s1:=⟨_,rfl⟩
 obtain ⟨s2,hs2⟩:∃ s2,s1++s=s2:=⟨_,rfl⟩
 obtain ⟨s3,hs3⟩:∃ s3,s2++[41]=s3:=⟨_,rfl⟩
 have l1:s1.length=wd.length+1:=by rw [<- hs1];simp
 have l2:s2.length=s1.length+s.length:=by rw [<- hs2];simp
 have g1:¬ 9223372036854775807<wd.length+1:=by omega
 have g2:¬ 9223372036854775807<s1.length+s.length:=by omega
 have g3:¬ 9223372036854775807<s2.length+1:=by omega
 have hfin:kwOf kwTerm ((j:Int)+3)++([40]++(s++[41]))=s3:=by rw [<- hs3,<- hs2,<- hs1,<- hwd];simp
 rw [hfin]
 have hjk:((j:Int)+3 - 3)=(j:Int):=by omega
 have hwk:IntKind.i64.wrap ((j:Int)+3 - 3)=(j:Int):=by rw [hjk];exact IntWalk.i64_in _ (by omega)
 have i1:(0:Int)<=(j:Int):=by omega
 have i2:(j:Int)<5:=by omega
 have HTS:=Lh (fun W=>rterms_any W)
 obtain ⟨kk,hK'⟩:∃ kk,kk=(j:Int)+3:=⟨_,rfl⟩
 rw [<- hK'] at hwk e1 e2 HB ⊢
 obtain ⟨B,hB⟩:∃ B,B=w.heap.size:=⟨_,rfl⟩
 obtain ⟨W0,hW0⟩:∃ W0,W0=w.alloc (.cells #[.int .i64 kk,.string ⟨s.toArray⟩,.int .i64 0] 61):=⟨_,rfl⟩
 have hk:=heap_alloc_new w (.cells #[.int .i64 kk,.string ⟨s.toArray⟩,.int .i64 0] 61)
 rw [<- hW0,<- hB] at hk
 have c0:W0.drew.cell? ⟨B,0,none⟩=some (.int .i64 kk):=cH hk rfl
 have c1:W0.drew.cell? ⟨B,1,none⟩=some (.string ⟨s.toArray⟩):=cH hk rfl
 have HC:=Lh (aI c0 c1)
 have HW:=Lh (aI hW0 hB)
 have HLT:Hid (B<W0.drew.heap.size):=Lh (gS hk).1
 have hbb:=HB.out
 rw [<- hW0] at hbb
 have HB2:=Lh hbb
 clear hW0 hB hk c0 c1 hbb ha hb' hnm hln h1 h2 hlk hwd hfin l1 l2 hjk hK'
 go_enter Tryz.func91,Tryz.ntmps91
 go_wp2_with fail
 rw [<- HW.out.1,<- HW.out.2]
 refine wp_region_U 11 (S:=fun w'=>w'.cell? ⟨B,0,none⟩=some (.int .i64 kk)/\w'.cell? ⟨B,1,none⟩=some (.string ⟨s.toArray⟩)) (by kernel_rfl) HC.out (fun hHeld=>?_)
 refine tkU (i:=1) rfl hHeld ?_
 try simp only [Act.put,ub1,ub2,ub3]
 refine tkU (i:=2) rfl hHeld ?_
 try simp only [Act.put,ub1,ub2,ub3]
 refine tkU (i:=3) rfl hHeld ?_
 try simp only [Act.put,ub1,ub2,ub3]
 refine tkU (i:=7) rfl hHeld ?_
 try simp only [Act.put,ub1,ub2,ub3]
 refine tkU (i:=8) rfl hHeld ?_
 try simp only [Act.put,ub1,ub2,ub3]
 refine ready_U (rs:=[0]) (by kernel_rfl) (by simp) ?_
 refine cons_U rfl (fun K hK=>?_) nil_U
 go_simp
 refine (HTS.out _).mono ?_
 rintro e w2 ⟨b,rfl,hcs,hb2⟩
 have x0:=hcs j hj5
 rw [HWD.out] at x0
 have HB3:=Lh hb2
 clear hb2 hcs
 go_simp
 refine hK.out _ _ ?_ (fun hHeld2=>?_)
 ·exact ⟨(HB3.out.cell (p:=⟨B,0,none⟩) HLT.out).trans HC.out.1,(HB3.out.cell (p:=⟨B,1,none⟩) HLT.out).trans HC.out.2⟩
 clear hK K hHeld
 have hHeld:=hHeld2
 clear hHeld2
 try simp only [Act.put,ub1,ub2,ub3]
 refine ready_U (rs:=[4]) (by kernel_rfl) (by simp) ?_
 refine cons_U rfl (fun K hK=>?_) nil_U
 go_simp
 refine hK.out _ _ ?_ (fun hHeld2=>?_)
 ·exact hHeld
 clear hK K hHeld
 have hHeld:=hHeld2
 clear hHeld2
 try simp only [Act.put,ub1,ub2,ub3]
 refine ready_U (rs:=[5]) (by kernel_rfl) (by simp) ?_
 refine cons_U rfl (fun K hK=>?_) nil_U
 go_simp
 refine hK.out _ _ ?_ (fun hHeld2=>?_)
 ·exact hHeld
 clear hK K hHeld
 have hHeld:=hHeld2
 clear hHeld2
 try simp only [Act.put,ub1,ub2,ub3]
 refine ready_U (rs:=[6]) (by kernel_rfl) (by simp) ?_
 refine cons_U rfl (fun K hK=>?_) nil_U
 go_simp
 refine hK.out _ _ ?_ (fun hHeld2=>?_)
 ·exact hHeld
 clear hK K hHeld
 have hHeld:=hHeld2
 clear hHeld2
 try simp only [Act.put,ub1,ub2,ub3]
 refine ready_U (rs:=[9]) (by kernel_rfl) (by simp) ?_
 refine cons_U rfl (fun K hK=>?_) nil_U
 go_simp
 refine hK.out _ _ ?_ (fun hHeld2=>?_)
 ·exact hHeld
 clear hK K hHeld
 have hHeld:=hHeld2
 clear hHeld2
 try simp only [Act.put,ub1,ub2,ub3]
 refine ready_U (rs:=[10]) (by kernel_rfl) (by simp) ?_
 refine cons_U rfl (fun K hK=>?_) nil_U
 go_simp
 refine hK.out _ _ ?_ (fun hHeld2=>?_)
 ·exact hHeld
 clear hK K hHeld
 have hHeld:=hHeld2
 clear hHeld2
 try simp only [Act.put,ub1,ub2,ub3]
 refine ready_U (rs:=[11]) (by kernel_rfl) (by simp) ?_
 refine cons_V rfl (by kernel_rfl) (fun K hK=>?_) nil_U
 go_simp
 refine hK.out _ _ ?_
 clear hK K
 try simp only [Act.put,ub1,ub2,ub3]
 refine done_U (by kernel_rfl) ?_ _
 go_wp2_with fail
 go_ret
 exact ⟨rfl,HB2.out.drew.trans (HB3.out.mono HB2.out.drew.size)⟩
end Go.Proofs.YtpmalchlecnjbaaGreatDoor
/- The reference's binds. (written by tools/gen_rxc.py) -/
namespace Go.Proofs.YtpmalchlecnjbaaGreatDoor
open Go.RowKit Go.Chalk
attribute [local go_sem] Oper.semAt_some bs_app
theorem rbinds7_any (bs:List Bnd) (z:SlA) (w:World) (hz:SlIn w (·<w.heap.size) (bs.map Bnd.toD) z) (hn:bs.length<=6) (hok:bs.all bndOk=true) :
  Calls Tryz.prog 93 #[.slice z.a bs.length z.cap] w fun e w'=>e=.returned (.string ⟨(txtBinds bs).toArray⟩)/\Below w.heap.size w w':=by
 obtain ⟨g1,_,_,g4,_⟩:=hz.flat Bnd.flatT
 have HG:=Lh (aI g1 g4)
 have HOK:=Lh (fun (j:Nat) (hj:j<bs.length)=>(List.all_eq_true.1 hok) _ (List.getElem_mem hj))
 have HLE:=Lh (fun (j:Nat)=>txtBinds_len (bs:=bs.take j) (List.all_eq_true.2 fun x hx=>List.all_eq_true.1 hok x (List.mem_of_mem_take hx)) (by rw [List.length_take];omega))
 have HTS:=Lh (fun W=>rsorts_any W)
 obtain ⟨n,hnn⟩:∃ n,n=bs.length:=⟨_,rfl⟩
 have HN:=Lh hnn
 rw [<- hnn] at hn ⊢
 obtain ⟨R,hR⟩:∃ R,R=txtBinds bs:=⟨_,rfl⟩
 rw [<- hR]
 have HR:=Lh hR
 clear hz g1 g4 hok hnn hR
 go_enter Tryz.func93,Tryz.ntmps93
 go_wp2_with fail
 go_loopw [3,8] (fun s3 s8 wr=>∃ (j:Nat) (cur:Bs),j<=n/\s8=.int .i64 j/\s3=.string ⟨cur.toArray⟩/\Hid (cur=txtBinds (bs.take j))/\Hid (Below w.heap.size w wr)) (fun _ s8 _=>n - (intOf s8).toNat)
 case atStart=>exact ⟨0,[],Nat.zero_le _,rfl,rfl,Lh (by simp [txtBinds]),Lh (Below.refl _ _)⟩
 case round =>
  obtain ⟨j,cur,hj,rfl,rfl,HCU,HB⟩:=hrel
  by_cases hlt:j<n
  ·have hjl:j<bs.length:=by have:=HN.out;omega
   obtain ⟨hza,hzb⟩:=HG.out.1 (by omega)
   obtain ⟨q0,q1⟩:=(HG.out.2.below HB.out (fun _=>hzb)).two j hjl rfl
   have hnext:=txtBinds_take bs j hjl
   have hle:=HLE.out j
   have hb:=HOK.out j hjl
   rw [<- HCU.out] at hnext hle
   rw [hza]
   clear hza
   generalize bs[j]=b at *
   obtain ⟨name,sort⟩:=b
   simp only [bndOk,Bool.and_eq_true,decide_eq_true_eq] at q0 q1 hb
   obtain ⟨⟨hnm,hs1⟩,hs7⟩:=hb
   obtain ⟨st,rfl⟩:=Int.eq_ofNat_of_zero_le (show 0<=sort by omega)
   have hst8:st<8:=by omega
   have hln:=named_len hnm
   have hlk:=kwSort_len (st:Int)
   obtain ⟨wd,hwd⟩:∃ wd,kwOf kwSort (st:Int)=wd:=⟨_,rfl⟩
   have hwd0:kwOf kwSort ((st:Int)+0)=wd:=by rw [Int.add_zero];exact hwd
   have HWD:=Lh hwd0
   rw [hwd] at hlk
   obtain ⟨y1,hy1⟩:∃ y1,name++[58,32]=y1:=⟨_,rfl⟩
   obtain ⟨y2,hy2⟩:∃ y2,y1++wd=y2:=⟨_,rfl⟩
   have l1:y1.length=name.length+2:=by rw [<- hy1];simp
   have l2:y2.length=y1.length+wd.length:=by rw [<- hy2];simp
   have htb:txtBind ⟨name,(st:Int)⟩=y2:=by rw [<- hy2,<- hy1,<- hwd,txtBind];simp
   rw [htb] at hnext
   have g1:¬ 9223372036854775807<name.length+2:=by omega
   have g2:¬ 9223372036854775807<y1.length+wd.length:=by omega
   have i1:(0:Int)<=(st:Int):=by omega
   have i2:(st:Int)<8:=by omega
   obtain ⟨W1,hW1⟩:∃ W1,W1=wr.alloc (.cells #[.string ⟨name.toArray⟩,.int .i64 (st:Int)] 74):=⟨_,rfl⟩
   obtain ⟨B,hB⟩:∃ B,B=wr.heap.size:=⟨_,rfl⟩
   have hk:=heap_alloc_new wr (.cells #[.string ⟨name.toArray⟩,.int .i64 (st:Int)] 74)
   rw [<- hW1,<- hB] at hk
   have c0:W1.drew.cell? ⟨B,0,none⟩=some (.string ⟨name.toArray⟩):=cH hk rfl
   have c1:W1.drew.cell? ⟨B,1,none⟩=some (.int .i64 (st:Int)):=cH hk rfl
   have HC:=Lh (aI c0 c1)
   have HW:=Lh (aI hW1 hB)
   have HLT:Hid (B<W1.drew.heap.size):=Lh (gS hk).1
   have hb1:Below wr.heap.size wr W1:=by rw [hW1];exact below_new _ _
   have HBB:=Lh (HB.out.trans (hb1.mono HB.out.size))
   clear hW1 hB hk c0 c1 hb1 hnm hs1 hs7 hwd hwd0 htb hzb
   by_cases h0:j=0
   ·obtain ⟨s4,hs4⟩:∃ s4,cur++y2=s4:=⟨_,rfl⟩
    have g4:¬ 9223372036854775807<cur.length+y2.length:=by omega
    have hp:decide ((0:Int)<(j:Int))=false:=by simp;omega
    have hp2:¬ 0<j:=by omega
    have HNX:Hid (s4=txtBinds (bs.take (j+1))):=Lh (by rw [hnext,<- hs4,if_pos h0];simp)
    clear hnext h0 l1 l2 hle hln hlk
    go_wp2_with fail
    rw [<- HW.out.1,<- HW.out.2]
    refine wp_region_U 11 (S:=fun w'=>w'.cell? ⟨B,0,none⟩=some (.string ⟨name.toArray⟩)/\w'.cell? ⟨B,1,none⟩=some (.int .i64 (st:Int))) (by kernel_rfl) HC.out (fun hHeld=>?_)
    refine tkU (i:=0) rfl hHeld ?_
    try simp only [Act.put,ub1,ub2,ub3]
    refine tkU (i:=1) rfl hHeld ?_
    try simp only [Act.put,ub1,ub2,ub3]
    refine tkU (i:=2) rfl hHeld ?_
    try simp only [Act.put,ub1,ub2,ub3]
    refine tkU (i:=3) rfl hHeld ?_
    try simp only [Act.put,ub1,ub2,ub3]
    refine tkU (i:=5) rfl hHeld ?_
    try simp only [Act.put,ub1,ub2,ub3]
    refine tkU (i:=6) rfl hHeld ?_
    try simp only [Act.put,ub1,ub2,ub3]
    refine ready_U (rs:=[4]) (by kernel_rfl) (by simp) ?_
    refine cons_U rfl (fun K hK=>?_) nil_U
    go_simp
    refine (HTS.out _).mono ?_
    rintro e w2 ⟨b,rfl,hcs,hb2⟩
    have x0:=hcs st hst8
    rw [HWD.out] at x0
    have HB3:=Lh hb2
    clear hb2 hcs
    go_simp
    refine hK.out _ _ ?_ (fun hHeld2=>?_)
    ·exact ⟨(HB3.out.cell (p:=⟨B,0,none⟩) HLT.out).trans HC.out.1,(HB3.out.cell (p:=⟨B,1,none⟩) HLT.out).trans HC.out.2⟩
    clear hK K hHeld
    have hHeld:=hHeld2
    clear hHeld2
    try simp only [Act.put,ub1,ub2,ub3]
    refine ready_U (rs:=[7]) (by kernel_rfl) (by simp) ?_
    refine cons_U rfl (fun K hK=>?_) nil_U
    go_simp
    refine hK.out _ _ ?_ (fun hHeld2=>?_)
    ·exact hHeld
    clear hK K hHeld
    have hHeld:=hHeld2
    clear hHeld2
    try simp only [Act.put,ub1,ub2,ub3]
    refine ready_U (rs:=[8]) (by kernel_rfl) (by simp) ?_
    refine cons_U rfl (fun K hK=>?_) nil_U
    go_simp
    refine hK.out _ _ ?_ (fun hHeld2=>?_)
    ·exact hHeld
    clear hK K hHeld
    have hHeld:=hHeld2
    clear hHeld2
    try simp only [Act.put,ub1,ub2,ub3]
    refine ready_U (rs:=[9]) (by kernel_rfl) (by simp) ?_
    refine cons_U rfl (fun K hK=>?_) nil_U
    go_simp
    refine hK.out _ _ ?_ (fun hHeld2=>?_)
    ·exact hHeld
    clear hK K hHeld
    have hHeld:=hHeld2
    clear hHeld2
    try simp only [Act.put,ub1,ub2,ub3]
    refine ready_U (rs:=[10]) (by kernel_rfl) (by simp) ?_
    refine cons_U rfl (fun K hK=>?_) nil_U
    go_simp
    refine hK.out _ _ ?_ (fun hHeld2=>?_)
    ·exact hHeld
    clear hK K hHeld
    have hHeld:=hHeld2
    clear hHeld2
    try simp only [Act.put,ub1,ub2,ub3]
    refine ready_U (rs:=[11]) (by kernel_rfl) (by simp) ?_
    refine cons_V rfl (by kernel_rfl) (fun K hK=>?_) nil_U
    go_simp
    refine hK.out _ _ ?_
    clear hK K
    try simp only [Act.put,ub1,ub2,ub3]
    refine done_U (by kernel_rfl) ?_ _
    go_wp2_with fail
    exact ⟨⟨j+1,s4,by omega,by go_num,rfl,HNX,Lh ((HBB.out.drew).trans (HB3.out.mono HBB.out.drew.size))⟩,by simp [intOf];omega⟩
   ·obtain ⟨c1,hc1⟩:∃ c1,cur++[44,32]=c1:=⟨_,rfl⟩
    have l0:c1.length=cur.length+2:=by rw [<- hc1];simp
    obtain ⟨s4,hs4⟩:∃ s4,c1++y2=s4:=⟨_,rfl⟩
    have g3:¬ 9223372036854775807<cur.length+2:=by omega
    have g4:¬ 9223372036854775807<c1.length+y2.length:=by omega
    have hp:decide ((0:Int)<(j:Int))=true:=by simp;omega
    have hp2:0<j:=by omega
    have HNX:Hid (s4=txtBinds (bs.take (j+1))):=Lh (by rw [hnext,<- hs4,<- hc1,if_neg h0];simp)
    clear hnext h0 l0 l1 l2 hle hln hlk
    go_wp2_with fail
    rw [<- HW.out.1,<- HW.out.2]
    refine wp_region_U 11 (S:=fun w'=>w'.cell? ⟨B,0,none⟩=some (.string ⟨name.toArray⟩)/\w'.cell? ⟨B,1,none⟩=some (.int .i64 (st:Int))) (by kernel_rfl) HC.out (fun hHeld=>?_)
    refine tkU (i:=0) rfl hHeld ?_
    try simp only [Act.put,ub1,ub2,ub3]
    refine tkU (i:=1) rfl hHeld ?_
    try simp only [Act.put,ub1,ub2,ub3]
    refine tkU (i:=2) rfl hHeld ?_
    try simp only [Act.put,ub1,ub2,ub3]
    refine tkU (i:=3) rfl hHeld ?_
    try simp only [Act.put,ub1,ub2,ub3]
    refine tkU (i:=5) rfl hHeld ?_
    try simp only [Act.put,ub1,ub2,ub3]
    refine tkU (i:=6) rfl hHeld ?_
    try simp only [Act.put,ub1,ub2,ub3]
    refine ready_U (rs:=[4]) (by kernel_rfl) (by simp) ?_
    refine cons_U rfl (fun K hK=>?_) nil_U
    go_simp
    refine (HTS.out _).mono ?_
    rintro e w2 ⟨b,rfl,hcs,hb2⟩
    have x0:=hcs st hst8
    rw [HWD.out] at x0
    have HB3:=Lh hb2
    clear hb2 hcs
    go_simp
    refine hK.out _ _ ?_ (fun hHeld2=>?_)
    ·exact ⟨(HB3.out.cell (p:=⟨B,0,none⟩) HLT.out).trans HC.out.1,(HB3.out.cell (p:=⟨B,1,none⟩) HLT.out).trans HC.out.2⟩
    clear hK K hHeld
    have hHeld:=hHeld2
    clear hHeld2
    try simp only [Act.put,ub1,ub2,ub3]
    refine ready_U (rs:=[7]) (by kernel_rfl) (by simp) ?_
    refine cons_U rfl (fun K hK=>?_) nil_U
    go_simp
    refine hK.out _ _ ?_ (fun hHeld2=>?_)
    ·exact hHeld
    clear hK K hHeld
    have hHeld:=hHeld2
    clear hHeld2
    try simp only [Act.put,ub1,ub2,ub3]
    refine ready_U (rs:=[8]) (by kernel_rfl) (by simp) ?_
    refine cons_U rfl (fun K hK=>?_) nil_U
    go_simp
    refine hK.out _ _ ?_ (fun hHeld2=>?_)
    ·exact hHeld
    clear hK K hHeld
    have hHeld:=hHeld2
    clear hHeld2
    try simp only [Act.put,ub1,ub2,ub3]
    refine ready_U (rs:=[9]) (by kernel_rfl) (by simp) ?_
    refine cons_U rfl (fun K hK=>?_) nil_U
    go_simp
    refine hK.out _ _ ?_ (fun hHeld2=>?_)
    ·exact hHeld
    clear hK K hHeld
    have hHeld:=hHeld2
    clear hHeld2
    try simp only [Act.put,ub1,ub2,ub3]
    refine ready_U (rs:=[10]) (by kernel_rfl) (by simp) ?_
    refine cons_U rfl (fun K hK=>?_) nil_U
    go_simp
    refine hK.out _ _ ?_ (fun hHeld2=>?_)
    ·exact hHeld
    clear hK K hHeld
    have hHeld:=hHeld2
    clear hHeld2
    try simp only [Act.put,ub1,ub2,ub3]
    refine ready_U (rs:=[11]) (by kernel_rfl) (by simp) ?_
    refine cons_V rfl (by kernel_rfl) (fun K hK=>?_) nil_U
    go_simp
    refine hK.out _ _ ?_
    clear hK K
    try simp only [Act.put,ub1,ub2,ub3]
    refine done_U (by kernel_rfl) ?_ _
    go_wp2_with fail
    exact ⟨⟨j+1,s4,by omega,by go_num,rfl,HNX,Lh ((HBB.out.drew).trans (HB3.out.mono HBB.out.drew.size))⟩,by simp [intOf];omega⟩
  ·have hjl:j=bs.length:=by have:=HN.out;omega
   have hcu:=HCU.out
   rw [hjl,List.take_length] at hcu
   rw [<- HR.out] at hcu
   subst hcu
   have hbd:=HB.out
   clear HCU hjl HR
   go_wp2_with fail
   go_ret
   exact ⟨rfl,hbd⟩
end Go.Proofs.YtpmalchlecnjbaaGreatDoor
/- The reference's at. (written by tools/gen_rxd.py) -/
namespace Go.Chalk
open Go.RowKit
theorem lev_tight (f:Frm) (least:Nat) (h:least<=3):txtIn f (least+1)=if levK f.kind<(least:Int) then [40]++(txtF f++[41]) else txtF f:=by
 unfold txtIn levK tightK
 by_cases h1:f.kind=13
 ·simp only [h1,if_pos];by_cases h2:0<least
  ·rw [if_pos (by omega),if_pos (by omega)]
  ·rw [if_neg (by omega),if_neg (by omega)]
 ·by_cases h3:f.kind=12
  ·simp only [h3,if_pos,show ¬ (12:Int)=13 from by decide,if_neg,not_false_eq_true];by_cases h2:1<least
   ·rw [if_pos (by omega),if_pos (by omega)]
   ·rw [if_neg (by omega),if_neg (by omega)]
  ·by_cases h4:f.kind=11
   ·simp only [h4,if_pos,show ¬ (11:Int)=13 from by decide,show ¬ (11:Int)=12 from by decide,if_neg,not_false_eq_true];by_cases h2:2<least
    ·rw [if_pos (by omega),if_pos (by omega)]
    ·rw [if_neg (by omega),if_neg (by omega)]
   ·simp only [if_neg h1,if_neg h3,if_neg h4]
    rw [if_neg (by omega),if_neg (by omega)]
end Go.Chalk
namespace Go.Proofs.YtpmalchlecnjbaaGreatDoor
open Go.RowKit Go.Chalk
attribute [local go_sem] Oper.semAt_some bs_app
def TextOk (g:Frm):Prop:=∀ (x:FrmA) (w:World),FrmIn w (·<w.heap.size) g x->(txtF g).length<=1000000000000->Calls Tryz.prog 46 #[.agg #[.int .i64 g.kind,.string ⟨g.name.toArray⟩,.int .i64 g.n,.slice x.t.a g.terms.length x.t.cap,.slice x.b.a g.binds.length x.b.cap,.slice x.l.a g.l.length x.l.cap]] w fun e w'=>e=.returned (.string ⟨(txtF g).toArray⟩)/\Below w.heap.size w w'
theorem rat_any (g:Frm) (hG:TextOk g) (x:FrmA) (w:World) (hx:FrmIn w (·<w.heap.size) g x) (least:Nat) (hl3:least<=3) (hlen:(txtF g).length<=1000000000000):Calls Tryz.prog 92 #[.agg #[.int .i64 g.kind,.string ⟨g.name.toArray⟩,.int .i64 g.n,.slice x.t.a g.terms.length x.t.cap,.slice x.b.a g.binds.length x.b.cap,.slice x.l.a g.l.length x.l.cap],.int .i64 (least:Int)] w fun e w'=>e=.returned (.string ⟨(txtIn g (least+1)).toArray⟩)/\Below w.heap.size w w':=by
 obtain ⟨W0,hW0⟩:∃ W0,W0=w.alloc (.cells #[.int .i64 g.kind,.string ⟨g.name.toArray⟩,.int .i64 g.n,.slice x.t.a g.terms.length x.t.cap,.slice x.b.a g.binds.length x.b.cap,.slice x.l.a g.l.length x.l.cap] 28):=⟨_,rfl⟩
 obtain ⟨B,hB⟩:∃ B,B=w.heap.size:=⟨_,rfl⟩
 have hb0:Below w.heap.size w W0:=by rw [hW0];exact below_new _ _
 have hk:=heap_alloc_new w (.cells #[.int .i64 g.kind,.string ⟨g.name.toArray⟩,.int .i64 g.n,.slice x.t.a g.terms.length x.t.cap,.slice x.b.a g.binds.length x.b.cap,.slice x.l.a g.l.length x.l.cap] 28)
 rw [<- hW0,<- hB] at hk
 have HK:=Lh hk
 have HW:=Lh (aI hW0 hB)
 have HB0:=Lh hb0
 have HT:=Lh (hG x W0 (hx.later hb0 hb0.size) hlen)
 have HLV:=Lh (fun W=>rlevel_any g.kind ⟨g.name.toArray⟩ g.n (.slice x.t.a g.terms.length x.t.cap) (.slice x.b.a g.binds.length x.b.cap) (.slice x.l.a g.l.length x.l.cap) W)
 have htx:=lev_tight g least hl3
 obtain ⟨s,hs⟩:∃ s,s=txtF g:=⟨_,rfl⟩
 rw [<- hs] at HT hlen htx
 obtain ⟨R,hR⟩:∃ R,R=txtIn g (least+1):=⟨_,rfl⟩
 rw [<- hR] at htx ⊢
 clear hW0 hB hb0 hk hG hx hs hR
 have p0:W0.cell? ⟨B,0,none⟩=some (.int .i64 g.kind):=cH HK.out rfl
 have p1:W0.cell? ⟨B,1,none⟩=some (.string ⟨g.name.toArray⟩):=cH HK.out rfl
 have p2:W0.cell? ⟨B,2,none⟩=some (.int .i64 g.n):=cH HK.out rfl
 have p3:W0.cell? ⟨B,3,none⟩=some (.slice x.t.a g.terms.length x.t.cap):=cH HK.out rfl
 have p4:W0.cell? ⟨B,4,none⟩=some (.slice x.b.a g.binds.length x.b.cap):=cH HK.out rfl
 have p5:W0.cell? ⟨B,5,none⟩=some (.slice x.l.a g.l.length x.l.cap):=cH HK.out rfl
 go_enter Tryz.func92,Tryz.ntmps92
 go_wp2_with fail
 rw [<- HW.out.1]
 refine HT.out.mono ?_
 rintro e w1 ⟨rfl,hb1⟩
 have D1:=Lh (HB0.out.trans (hb1.mono HB0.out.size))
 have hk1:=(hb1.block B (gS HK.out).1).trans HK.out
 clear p0 p1 p2 p3 p4 p5 hb1
 rw [<- HW.out.2]
 have p0:w1.cell? ⟨B,0,none⟩=some (.int .i64 g.kind):=cH hk1 rfl
 have p1:w1.cell? ⟨B,1,none⟩=some (.string ⟨g.name.toArray⟩):=cH hk1 rfl
 have p2:w1.cell? ⟨B,2,none⟩=some (.int .i64 g.n):=cH hk1 rfl
 have p3:w1.cell? ⟨B,3,none⟩=some (.slice x.t.a g.terms.length x.t.cap):=cH hk1 rfl
 have p4:w1.cell? ⟨B,4,none⟩=some (.slice x.b.a g.binds.length x.b.cap):=cH hk1 rfl
 have p5:w1.cell? ⟨B,5,none⟩=some (.slice x.l.a g.l.length x.l.cap):=cH hk1 rfl
 clear hk1
 go_wp2_with fail
 refine (HLV.out _).mono ?_
 rintro e w2 ⟨rfl,hb2⟩
 have D2:=Lh (D1.out.trans (hb2.mono D1.out.size))
 clear hb2 p0 p1 p2 p3 p4 p5
 generalize levK g.kind=z at htx
 by_cases hz:z<(least:Int)
 ·rw [if_pos hz] at htx
  have hz':decide (z<(least:Int))=true:=decide_eq_true hz
  obtain ⟨s1,hs1⟩:∃ s1,40 :: s=s1:=⟨_,rfl⟩
  obtain ⟨s2,hs2⟩:∃ s2,s1++[41]=s2:=⟨_,rfl⟩
  have l1:s1.length=s.length+1:=by rw [<- hs1];simp
  have g1:¬ 9223372036854775807<1+s.length:=by omega
  have g2:¬ 9223372036854775807<s1.length+1:=by omega
  have hR2:R=s2:=by rw [htx,<- hs2,<- hs1];simp
  subst hR2
  clear l1 htx hlen hz
  go_wp2_with fail
  go_ret
  exact ⟨rfl,D2.out⟩
 ·rw [if_neg hz] at htx
  have hz':decide (z<(least:Int))=false:=decide_eq_false hz
  subst htx
  clear hz hlen
  go_wp2_with fail
  go_ret
  exact ⟨rfl,D2.out⟩
end Go.Proofs.YtpmalchlecnjbaaGreatDoor
