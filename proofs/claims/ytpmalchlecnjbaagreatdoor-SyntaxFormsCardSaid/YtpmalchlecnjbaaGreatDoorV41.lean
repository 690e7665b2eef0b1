/- Joined texts: PLb. -/
import Derived.Test.YtpmalchlecnjbaaGreatDoorV39
import Derived.Lib.SlBytesConst
import Derived.Lib.SmallJoins
set_option maxHeartbeats 8000000
set_option maxRecDepth 100000
set_option linter.unusedVariables false
set_option linter.unusedSimpArgs false
/- The law's live, walked. (written by tools/gen_plb.py) -/
namespace Go.Proofs.YtpmalchlecnjbaaGreatDoor
open Go.RowKit Go.Chalk
attribute [local go_sem] Oper.semAt_some
theorem row_sb {w:World} {l:Bs} {B:Nat} {T:TypeId} {fr:Nat×Nat} (h:w.heap[B]?=some (.cells (l.map (fun c=>Value.int .u8 (c.toNat:Int))).toArray T fr)):SB w w.heap.size l (some ⟨B,0,none⟩) B 0 :=
 ⟨fun _=>⟨rfl,(gS h).1⟩,fun i hi=>by
  rw [Nat.zero_add]
  simp [World.cell?,h,hi]⟩
theorem CellsAt.ten' {w:World} {b o:Nat} {c0 c1 c2 c3 c4 c5 c6 c7 c8 c9:Value} (h:CellsAt w b o [c0,c1,c2,c3,c4,c5,c6,c7,c8,c9]):w.cell? ⟨b,o,none⟩=some c0/\w.cell? ⟨b,o+1,none⟩=some c1/\w.cell? ⟨b,o+2,none⟩=some c2/\w.cell? ⟨b,o+3,none⟩=some c3/\w.cell? ⟨b,o+4,none⟩=some c4/\True:=by
 obtain ⟨e0,e1,e2,e3,e4,_⟩:=h.ten
 exact ⟨e0,e1,e2,e3,e4,trivial⟩
theorem bytesV_text {w:World} {v:Value} {l:Bs} (h:BytesV w v l):(convert 22 9 v).run Tryz.prog w=.ok (.string ⟨l.toArray⟩) w:=by
 obtain ⟨a,b,o,cap,rfl,h1,h2⟩:=h
 exact h1.text (P:=Tryz.prog) 22 5 9 Tryz.underlying22 Tryz.underlying5 Tryz.underlying9 cap
theorem live_any (w:World) (hg:GS w):Calls Tryz.prog 13 #[] w fun e w'=>e=.returned (.bool true)/\Below w.heap.size w w':=by
 have HFM:=Lh (fun (bs:Bs) (a:Option Addr) (b o cap:Nat) (W:World) (hW:Below w.heap.size w W) (h1:SB W W.heap.size bs a b o) (h2:bs.length<=cap)=>sform_any bs a b o cap W h1 h2 (hg.below hW))
 have HPA:=Lh (fun (bs:Bs) (a:Option Addr) (b o cap:Nat) (W:World) (hW:Below w.heap.size w W) (h1:SB W W.heap.size bs a b o) (h2:bs.length<=cap)=>sparse_any bs a b o cap W h1 h2 (hg.below hW))
 have HTX:=Lh (fun (f:Frm) (y:FrmA) (W:World) (hW:Below w.heap.size w W) (h1:FrmIn W (·<W.heap.size) f y) (h2:FrmFit f)=>stext_any f y W h1 h2 (hg.below hW))
 have HPR:=Lh (fun (l:List Rul) (x:SlA) (W:World) (hW:Below w.heap.size w W) (h1:SlIn W (·<W.heap.size) (l.map Rul.toD) x) (h2:l.length<=2000000) (h3:∀ r∈l,RuFit r)=>sprint_any l x W h1 h2 h3 (hg.below hW))
 clear hg
 obtain ⟨cap0,W1,hcv,hsb,hcp,hb⟩:=conv_bytes [33,40,97,32,61,32,98,32,124,32,116,114,117,101,41,32,45,62,32,120,32,60,32,51] 24 rfl w
 have H1:=Lh (aI hsb (aI hcp hb))
 have HF1:=Lh (HFM.out [33,40,97,32,61,32,98,32,124,32,116,114,117,101,41,32,45,62,32,120,32,60,32,51] _ _ _ cap0 W1 hb hsb hcp)
 clear hsb hcp hb
 go_enter Tryz.func13,Tryz.ntmps13
 go_wp2_with fail
 refine HF1.out.mono ?_
 rintro e w2 ⟨hb2,hr⟩
 rcases hr with ⟨f,x,hs,rfl,hx⟩ | ⟨n,c,hs,_⟩
 rotate_left
 ·rw [live_form] at hs;simp at hs
 rw [live_form] at hs
 obtain rfl:liveF=f:=by simpa using hs
 have D2:=Lh (H1.out.2.2.trans (hb2.mono H1.out.2.2.size))
 have HX:=Lh (hx.mono (fun k hk=>hk.2))
 clear hb2 hx hs hcv HF1
 generalize hss:(⟨#[33,40,97,32,61,32,98,32,124,32,116,114,117,101,41,32,45,62,32,120,32,60,32,51]⟩:ByteArray)=ss
 have HSS:=Lh hss
 clear hss
 have hlf:liveF=.mk 13 [] 0 [] [] [.mk 10 [] 0 [] [] [.mk 12 [] 0 [] [] [.mk 9 [61] 0 [⟨2,[97],0⟩,⟨2,[98],0⟩] [] [],.mk 1 [] 0 [] [] []]],.mk 9 [60] 0 [⟨2,[120],0⟩,⟨1,[],3⟩] [] []]:=rfl
 simp only [hlf,Frm.kind,Frm.name,Frm.n,Frm.terms,Frm.binds,Frm.l,List.length_nil,List.length_cons,Nat.zero_add,Nat.reduceAdd]
 clear hlf
 obtain ⟨B2,hB2⟩:∃ B2,B2=w2.heap.size:=⟨_,rfl⟩
 obtain ⟨w3,hw3⟩:∃ w3,w3=w2.alloc (.cells #[.int .i64 13,.string ⟨#[]⟩,.int .i64 0,.slice x.t.a 0 x.t.cap,.slice x.b.a 0 x.b.cap,.slice x.l.a 2 x.l.cap] 28):=⟨_,rfl⟩
 have hb:Below w2.heap.size w2 w3:=by rw [hw3];exact below_new _ _
 have hx:w3.heap[B2]?=some (.cells #[.int .i64 13,.string ⟨#[]⟩,.int .i64 0,.slice x.t.a 0 x.t.cap,.slice x.b.a 0 x.b.cap,.slice x.l.a 2 x.l.cap] 28 (0,0)):=by rw [hw3,hB2];exact heap_alloc_new _ _
 have KB2:=Lh hx
 have HBB2:=Lh hB2
 have HW3:=Lh hw3
 have D3:=Lh (D2.out.trans (hb.mono D2.out.size))
 have E3:=Lh (Below.refl w3.heap.size w3)
 have HX3:=Lh (HX.out.later hb hb.size)
 clear hb hx hw3 hB2
 go_wp2_with fail
 rw [<- HW3.out,<- HBB2.out]
 refine (lv_any [97] w3).mono ?_
 rintro e w4 ⟨rfl,hb⟩
 have D4:=Lh (D3.out.trans (hb.mono D3.out.size))
 have E4:=Lh (E3.out.trans (hb.mono E3.out.size))
 clear hb
 go_wp2_with fail
 refine (lv_any [98] w4).mono ?_
 rintro e w5 ⟨rfl,hb⟩
 have D5:=Lh (D4.out.trans (hb.mono D4.out.size))
 have E5:=Lh (E4.out.trans (hb.mono E4.out.size))
 clear hb
 go_wp2_with (with_reducible refine wpList_row ?_)
 unfold Hold
 refine wpList_step fun K hK=>?_
 rw [if_pos (by kernel_rfl)]
 go_simp
 refine hK _ _ ?_
 clear hK K
 try simp only [Act.put,ub1,ub2,ub3]
 have hb:Below w5.heap.size w5 (w5.alloc (.cells #[.int .i64 2,.string ⟨#[97]⟩,.int .i64 0,.int .i64 2,.string ⟨#[98]⟩,.int .i64 0] 61)):=below_new _ _
 have hrow:(w5.alloc (.cells #[.int .i64 2,.string ⟨#[97]⟩,.int .i64 0,.int .i64 2,.string ⟨#[98]⟩,.int .i64 0] 61)).heap[w5.heap.size]?=some (.cells #[.int .i64 2,.string ⟨#[97]⟩,.int .i64 0,.int .i64 2,.string ⟨#[98]⟩,.int .i64 0] 61 (0,0)):=heap_alloc_new _ _
 obtain ⟨R1,hR1⟩:∃ R1,R1=w5.heap.size:=⟨_,rfl⟩
 rw [<- hR1] at hrow ⊢
 generalize w5.alloc (.cells #[.int .i64 2,.string ⟨#[97]⟩,.int .i64 0,.int .i64 2,.string ⟨#[98]⟩,.int .i64 0] 61)=w6 at hb hrow ⊢
 have D6:=Lh (D5.out.trans (hb.mono D5.out.size))
 have E6:=Lh (E5.out.trans (hb.mono E5.out.size))
 have HR6:=Lh (aI hrow (gS hrow).1)
 clear hb hrow hR1
 have F6:=Lh (node_terms (G:=(·<w6.heap.size)) (k:=9) (s:=[61]) (t:=⟨2,[97],0⟩) (u:=⟨2,[98],0⟩) HR6.out.1 HR6.out.2 ⟨by simp,by simp,by simp,by simp,by simp⟩ ⟨by simp,by simp,by simp,by simp,by simp⟩ (by simp) (by simp))
 go_wp2_with (with_reducible refine wpList_row ?_)
 unfold Hold
 refine wpList_step fun K hK=>?_
 rw [if_pos (by kernel_rfl)]
 go_simp
 refine hK _ _ ?_
 clear hK K
 try simp only [Act.put,ub1,ub2,ub3]
 have hb:Below w6.heap.size w6 (w6.alloc (.cells #[.int .i64 9,.string ⟨#[61]⟩,.int .i64 0,.slice (some ⟨R1,0,none⟩) 2 2,.slice none 0 0,.slice none 0 0,.int .i64 1,.string ⟨#[]⟩,.int .i64 0,.slice none 0 0,.slice none 0 0,.slice none 0 0] 28)):=below_new _ _
 have hrow:(w6.alloc (.cells #[.int .i64 9,.string ⟨#[61]⟩,.int .i64 0,.slice (some ⟨R1,0,none⟩) 2 2,.slice none 0 0,.slice none 0 0,.int .i64 1,.string ⟨#[]⟩,.int .i64 0,.slice none 0 0,.slice none 0 0,.slice none 0 0] 28)).heap[w6.heap.size]?=some (.cells #[.int .i64 9,.string ⟨#[61]⟩,.int .i64 0,.slice (some ⟨R1,0,none⟩) 2 2,.slice none 0 0,.slice none 0 0,.int .i64 1,.string ⟨#[]⟩,.int .i64 0,.slice none 0 0,.slice none 0 0,.slice none 0 0] 28 (0,0)):=heap_alloc_new _ _
 obtain ⟨R2,hR2⟩:∃ R2,R2=w6.heap.size:=⟨_,rfl⟩
 rw [<- hR2] at hrow ⊢
 generalize w6.alloc (.cells #[.int .i64 9,.string ⟨#[61]⟩,.int .i64 0,.slice (some ⟨R1,0,none⟩) 2 2,.slice none 0 0,.slice none 0 0,.int .i64 1,.string ⟨#[]⟩,.int .i64 0,.slice none 0 0,.slice none 0 0,.slice none 0 0] 28)=w7 at hb hrow ⊢
 have HB67:=Lh hb
 have D7:=Lh (D6.out.trans (hb.mono D6.out.size))
 have E7:=Lh (E6.out.trans (hb.mono E6.out.size))
 have HR7:=Lh (aI hrow (gS hrow).1)
 clear hb hrow hR2
 have F7:=Lh (node_two (G:=(·<w7.heap.size)) (k:=12) (f:=.mk 9 [61] 0 [⟨2,[97],0⟩,⟨2,[98],0⟩] [] []) (g:=.mk 1 [] 0 [] [] []) (x:=⟨⟨some ⟨R1,0,none⟩,R1,0,2⟩,noS,noS⟩) (y:=⟨noS,noS,noS⟩) HR7.out.1 HR7.out.2 (F6.out.later HB67.out HB67.out.size) (leaf_in' _ _ (by simp)) (by simp))
 go_wp2_with (with_reducible refine wpList_row ?_)
 unfold Hold
 refine wpList_step fun K hK=>?_
 rw [if_pos (by kernel_rfl)]
 go_simp
 refine hK _ _ ?_
 clear hK K
 try simp only [Act.put,ub1,ub2,ub3]
 have hb:Below w7.heap.size w7 (w7.alloc (.cells #[.int .i64 12,.string ⟨#[]⟩,.int .i64 0,.slice none 0 0,.slice none 0 0,.slice (some ⟨R2,0,none⟩) 2 2] 28)):=below_new _ _
 have hrow:(w7.alloc (.cells #[.int .i64 12,.string ⟨#[]⟩,.int .i64 0,.slice none 0 0,.slice none 0 0,.slice (some ⟨R2,0,none⟩) 2 2] 28)).heap[w7.heap.size]?=some (.cells #[.int .i64 12,.string ⟨#[]⟩,.int .i64 0,.slice none 0 0,.slice none 0 0,.slice (some ⟨R2,0,none⟩) 2 2] 28 (0,0)):=heap_alloc_new _ _
 obtain ⟨R3,hR3⟩:∃ R3,R3=w7.heap.size:=⟨_,rfl⟩
 rw [<- hR3] at hrow ⊢
 generalize w7.alloc (.cells #[.int .i64 12,.string ⟨#[]⟩,.int .i64 0,.slice none 0 0,.slice none 0 0,.slice (some ⟨R2,0,none⟩) 2 2] 28)=w8 at hb hrow ⊢
 have HB78:=Lh hb
 have D8:=Lh (D7.out.trans (hb.mono D7.out.size))
 have E8:=Lh (E7.out.trans (hb.mono E7.out.size))
 have HR8:=Lh (aI hrow (gS hrow).1)
 clear hb hrow hR3
 have F8:=Lh (node_one (G:=(·<w8.heap.size)) (k:=10) (n:=0) (bs:=[]) (f:=node2 12 (.mk 9 [61] 0 [⟨2,[97],0⟩,⟨2,[98],0⟩] [] []) (.mk 1 [] 0 [] [] [])) (x:=⟨noS,noS,⟨some ⟨R2,0,none⟩,R2,0,2⟩⟩) (z:=noS) HR8.out.1 HR8.out.2 (F7.out.later HB78.out HB78.out.size) (SlIn.nil (Nat.zero_le _) _ _ _) (by simp) (by simp))
 go_wp2_with (with_reducible refine wpList_row ?_)
 refine (lv_any [120] w8).mono ?_
 rintro e w9 ⟨rfl,hb⟩
 have D9:=Lh (D8.out.trans (hb.mono D8.out.size))
 have E9:=Lh (E8.out.trans (hb.mono E8.out.size))
 have F9:=Lh (F8.out.later hb hb.size)
 clear hb
 go_wp2_with (with_reducible refine wpList_row ?_)
 unfold Hold
 refine wpList_step fun K hK=>?_
 rw [if_pos (by kernel_rfl)]
 go_simp
 refine hK _ _ ?_
 clear hK K
 try simp only [Act.put,ub1,ub2,ub3]
 have hb:Below w9.heap.size w9 (w9.alloc (.cells #[.int .i64 2,.string ⟨#[120]⟩,.int .i64 0,.int .i64 1,.string ⟨#[]⟩,.int .i64 3] 61)):=below_new _ _
 have hrow:(w9.alloc (.cells #[.int .i64 2,.string ⟨#[120]⟩,.int .i64 0,.int .i64 1,.string ⟨#[]⟩,.int .i64 3] 61)).heap[w9.heap.size]?=some (.cells #[.int .i64 2,.string ⟨#[120]⟩,.int .i64 0,.int .i64 1,.string ⟨#[]⟩,.int .i64 3] 61 (0,0)):=heap_alloc_new _ _
 obtain ⟨R4,hR4⟩:∃ R4,R4=w9.heap.size:=⟨_,rfl⟩
 rw [<- hR4] at hrow ⊢
 generalize w9.alloc (.cells #[.int .i64 2,.string ⟨#[120]⟩,.int .i64 0,.int .i64 1,.string ⟨#[]⟩,.int .i64 3] 61)=w10 at hb hrow ⊢
 have HB910:=Lh hb
 have D10:=Lh (D9.out.trans (hb.mono D9.out.size))
 have E10:=Lh (E9.out.trans (hb.mono E9.out.size))
 have HR10:=Lh (aI hrow (gS hrow).1)
 clear hb hrow hR4
 have F10:=Lh (node_terms (G:=(·<w10.heap.size)) (k:=9) (s:=[60]) (t:=⟨2,[120],0⟩) (u:=⟨1,[],3⟩) HR10.out.1 HR10.out.2 ⟨by simp,by simp,by simp,by simp,by simp⟩ ⟨by simp,by simp,by simp,by simp,by simp⟩ (by simp) (by simp))
 go_wp2_with (with_reducible refine wpList_row ?_)
 unfold Hold
 refine wpList_step fun K hK=>?_
 rw [if_pos (by kernel_rfl)]
 go_simp
 refine hK _ _ ?_
 clear hK K
 try simp only [Act.put,ub1,ub2,ub3]
 have hb:Below w10.heap.size w10 (w10.alloc (.cells #[.int .i64 10,.string ⟨#[]⟩,.int .i64 0,.slice none 0 0,.slice none 0 0,.slice (some ⟨R3,0,none⟩) 1 1,.int .i64 9,.string ⟨#[60]⟩,.int .i64 0,.slice (some ⟨R4,0,none⟩) 2 2,.slice none 0 0,.slice none 0 0] 28)):=below_new _ _
 have hrow:(w10.alloc (.cells #[.int .i64 10,.string ⟨#[]⟩,.int .i64 0,.slice none 0 0,.slice none 0 0,.slice (some ⟨R3,0,none⟩) 1 1,.int .i64 9,.string ⟨#[60]⟩,.int .i64 0,.slice (some ⟨R4,0,none⟩) 2 2,.slice none 0 0,.slice none 0 0] 28)).heap[w10.heap.size]?=some (.cells #[.int .i64 10,.string ⟨#[]⟩,.int .i64 0,.slice none 0 0,.slice none 0 0,.slice (some ⟨R3,0,none⟩) 1 1,.int .i64 9,.string ⟨#[60]⟩,.int .i64 0,.slice (some ⟨R4,0,none⟩) 2 2,.slice none 0 0,.slice none 0 0] 28 (0,0)):=heap_alloc_new _ _
 obtain ⟨R5,hR5⟩:∃ R5,R5=w10.heap.size:=⟨_,rfl⟩
 rw [<- hR5] at hrow ⊢
 generalize w10.alloc (.cells #[.int .i64 10,.string ⟨#[]⟩,.int .i64 0,.slice none 0 0,.slice none 0 0,.slice (some ⟨R3,0,none⟩) 1 1,.int .i64 9,.string ⟨#[60]⟩,.int .i64 0,.slice (some ⟨R4,0,none⟩) 2 2,.slice none 0 0,.slice none 0 0] 28)=w11 at hb hrow ⊢
 have HB1011:=Lh hb
 have HB911:=Lh (HB910.out.trans (hb.mono HB910.out.size))
 have D11:=Lh (D10.out.trans (hb.mono D10.out.size))
 have E11:=Lh (E10.out.trans (hb.mono E10.out.size))
 have HR11:=Lh (aI hrow (gS hrow).1)
 clear hb hrow hR5
 have F11:=Lh (node_two (G:=(·<w11.heap.size)) (k:=13) (f:=.mk 10 [] 0 [] [] [node2 12 (.mk 9 [61] 0 [⟨2,[97],0⟩,⟨2,[98],0⟩] [] []) (.mk 1 [] 0 [] [] [])]) (g:=.mk 9 [60] 0 [⟨2,[120],0⟩,⟨1,[],3⟩] [] []) (x:=⟨noS,noS,⟨some ⟨R3,0,none⟩,R3,0,1⟩⟩) (y:=⟨⟨some ⟨R4,0,none⟩,R4,0,2⟩,noS,noS⟩) HR11.out.1 HR11.out.2 (F9.out.later HB911.out HB911.out.size) (F10.out.later HB1011.out HB1011.out.size) (by simp))
 obtain ⟨B5,hB5⟩:∃ B5,B5=w11.heap.size:=⟨_,rfl⟩
 obtain ⟨w12,hw12⟩:∃ w12,w12=w11.alloc (.cells #[.int .i64 13,.string ⟨#[]⟩,.int .i64 0,.slice none 0 0,.slice none 0 0,.slice (some ⟨R5,0,none⟩) 2 2] 28):=⟨_,rfl⟩
 have hb:Below w11.heap.size w11 w12:=by rw [hw12];exact below_new _ _
 have hx:w12.heap[B5]?=some (.cells #[.int .i64 13,.string ⟨#[]⟩,.int .i64 0,.slice none 0 0,.slice none 0 0,.slice (some ⟨R5,0,none⟩) 2 2] 28 (0,0)):=by rw [hw12,hB5];exact heap_alloc_new _ _
 have KB5:=Lh hx
 have HBB5:=Lh hB5
 have HW12:=Lh hw12
 have D12:=Lh (D11.out.trans (hb.mono D11.out.size))
 have E12:=Lh (E11.out.trans (hb.mono E11.out.size))
 have G12:=Lh (Below.refl w12.heap.size w12)
 have F12:Hid (FrmIn w12 (·<w12.heap.size) liveF ⟨noS,noS,⟨some ⟨R5,0,none⟩,R5,0,2⟩⟩):=Lh (F11.out.later hb hb.size)
 have HT:Hid (Calls Tryz.prog 18 #[.agg #[.int .i64 13,.string ⟨#[]⟩,.int .i64 0,.slice none 0 0,.slice none 0 0,.slice (some ⟨R5,0,none⟩) 2 2]] w12 (TextPost w12.heap.size w12 (synText liveF))):=Lh (HTX.out liveF ⟨noS,noS,⟨some ⟨R5,0,none⟩,R5,0,2⟩⟩ w12 D12.out F12.out live_fit)
 clear hb hx hw12 hB5
 go_wp2_with fail
 rw [<- HW12.out,<- HBB5.out]
 refine HT.out.mono ?_
 rintro e w13 ⟨v1,rfl,hv1,hb⟩
 rw [live_text] at hv1 ⊢
 have D13:=Lh (D12.out.trans (hb.mono D12.out.size))
 have E13:=Lh (E12.out.trans (hb.mono E12.out.size))
 have G13:=Lh (G12.out.trans (hb.mono G12.out.size))
 have P13:=Lh (Below.refl w13.heap.size w13)
 have V13:=Lh hv1
 clear hb hv1 HT
 have kc:=Lib.run_convert_bytes_const (P:=Tryz.prog) w13 22 5 #[.int .u8 97,.int .u8 32,.int .u8 61,.int .u8 32,.int .u8 98,.int .u8 32,.int .u8 38] 7 7 Tryz.underlying22 Tryz.underlying5
 obtain ⟨R6,hR6⟩:∃ R6,R6=w13.heap.size:=⟨_,rfl⟩
 obtain ⟨w14,hw14⟩:∃ w14,w14=w13.alloc (.cells #[.int .u8 97,.int .u8 32,.int .u8 61,.int .u8 32,.int .u8 98,.int .u8 32,.int .u8 38] 5 (7,8)):=⟨_,rfl⟩
 have hb:Below w13.heap.size w13 w14:=by rw [hw14];exact below_new _ _
 have hrow:w14.heap[R6]?=some (.cells #[.int .u8 97,.int .u8 32,.int .u8 61,.int .u8 32,.int .u8 98,.int .u8 32,.int .u8 38] 5 (7,8)):=by rw [hw14,hR6,heap_get,if_pos (by simp)]
 rw [show (#[.int .u8 97,.int .u8 32,.int .u8 61,.int .u8 32,.int .u8 98,.int .u8 32,.int .u8 38]:Array Value).size=7 from rfl,<- hw14] at kc
 have D14:=Lh (D13.out.trans (hb.mono D13.out.size))
 have E14:=Lh (E13.out.trans (hb.mono E13.out.size))
 have G14:=Lh (G13.out.trans (hb.mono G13.out.size))
 have P14:=Lh (P13.out.trans (hb.mono P13.out.size))
 have HRX:=Lh hR6
 have hb7:[97,32,61,32,98,32,38].length<=7:=by decide
 have HF2:=Lh (HFM.out [97,32,61,32,98,32,38] (some ⟨R6,0,none⟩) R6 0 7 w14 D14.out (row_sb (l:=[97,32,61,32,98,32,38]) (by exact hrow)) hb7)
 clear hb7 hb hrow hw14 hR6
 go_wp2_with fail
 rw [<- HRX.out]
 clear kc
 refine HF2.out.mono ?_
 rintro e w15 ⟨hb,hr⟩
 rcases hr with ⟨f,x',hs,rfl,hx⟩ | ⟨n,c,hs,rfl⟩
 ·rw [live_bad] at hs;simp at hs
 rw [live_bad] at hs
 obtain ⟨rfl,rfl⟩:n=7/\c=70:=by simp at hs;omega
 have D15:=Lh (D14.out.trans (hb.mono D14.out.size))
 have E15:=Lh (E14.out.trans (hb.mono E14.out.size))
 have G15:=Lh (G14.out.trans (hb.mono G14.out.size))
 have P15:=Lh (P14.out.trans (hb.mono P14.out.size))
 clear hb hs HF2
 obtain ⟨B8,hB8⟩:∃ B8,B8=w15.heap.size:=⟨_,rfl⟩
 obtain ⟨w16,hw16⟩:∃ w16,w16=w15.alloc (.cells #[.int .i64 0,.string ⟨#[]⟩,.int .i64 0,.slice none 0 0,.slice none 0 0,.slice none 0 0] 28):=⟨_,rfl⟩
 have hb:Below w15.heap.size w15 w16:=by rw [hw16];exact below_new _ _
 have hx:w16.heap[B8]?=some (.cells #[.int .i64 0,.string ⟨#[]⟩,.int .i64 0,.slice none 0 0,.slice none 0 0,.slice none 0 0] 28 (0,0)):=by rw [hw16,hB8];exact heap_alloc_new _ _
 have KB8:=Lh hx
 have HBB8:=Lh hB8
 have HW16:=Lh hw16
 have D16:=Lh (D15.out.trans (hb.mono D15.out.size))
 have E16:=Lh (E15.out.trans (hb.mono E15.out.size))
 have G16:=Lh (G15.out.trans (hb.mono G15.out.size))
 have P16:=Lh (P15.out.trans (hb.mono P15.out.size))
 have hsz16:w16.heap.size=w15.heap.size+1:=by rw [hw16];simp
 clear hb hx hB8 hw16
 obtain ⟨cap1,w17,hcv,hsb,hcp,hb⟩:=conv_bytes [104,97,114,100,32,111,110,101,32,101,97,99,104,32,108,58,32,108,101,115,115,111,110,58,32,115,111,109,101,32,115,58,32,115,108,111,116,32,40,97,116,40,108,44,32,115,41,41,59,10] 50 rfl w16
 have HCV:=Lh hcv
 have D17:=Lh (D16.out.trans (hb.mono D16.out.size))
 have E17:=Lh (E16.out.trans (hb.mono E16.out.size))
 have G17:=Lh (G16.out.trans (hb.mono G16.out.size))
 have P17:=Lh (P16.out.trans (hb.mono P16.out.size))
 have HP1:=Lh (HPA.out [104,97,114,100,32,111,110,101,32,101,97,99,104,32,108,58,32,108,101,115,115,111,110,58,32,115,111,109,101,32,115,58,32,115,108,111,116,32,40,97,116,40,108,44,32,115,41,41,59,10] _ _ _ cap1 w17 D17.out hsb hcp)
 clear hsb hcp hb
 rw [HW16.out] at hcv
 rw [hsz16] at HP1
 clear hsz16
 go_wp2_with fail
 refine HP1.out.mono ?_
 rintro e w18 ⟨hb,hr⟩
 rcases hr with ⟨l,z,hs,rfl,hz,hfit⟩ | ⟨n,c,hs,hc,_⟩
 rotate_left
 ·rw [live_parse] at hs;simp at hs
 rw [live_parse] at hs
 obtain rfl:[liveR]=l:=by simpa using hs
 have D18:=Lh (D17.out.trans (hb.mono D17.out.size))
 have E18:=Lh (E17.out.trans (hb.mono E17.out.size))
 have G18:=Lh (G17.out.trans (hb.mono G17.out.size))
 have P18:=Lh (P17.out.trans (hb.mono P17.out.size))
 have Q18:=Lh (Below.refl w18.heap.size w18)
 have hz':SlIn w18 (·<w18.heap.size) ([liveR].map Rul.toD) z:=hz.mono (fun k hk=>hk.2)
 have HP2:Hid (Calls Tryz.prog 24 #[.slice z.a 1 z.cap] w18 (TextPost w18.heap.size w18 (synPrint [liveR]))):=Lh (HPR.out [liveR] z w18 D18.out hz' (by simp) hfit)
 obtain ⟨y,hy1,hy2⟩:=hz'.rul 0 (by simp)
 obtain ⟨hza,hzl⟩:=hz'.at_ (by simp)
 have HE:=Lh (aI hy2 hzl)
 rw [hza] at HP2
 simp only [List.length_cons,List.length_nil,Nat.zero_add,hza]
 clear hb hs hz hfit hz' hy1 hy2 hzl hza hcv
 generalize hrr:(⟨#[104,97,114,100,32,111,110,101,32,101,97,99,104,32,108,58,32,108,101,115,115,111,110,58,32,115,111,109,101,32,115,58,32,115,108,111,116,32,40,97,116,40,108,44,32,115,41,41,59,10]⟩:ByteArray)=rr
 have HRR:=Lh hrr
 clear hrr
 go_wp2_with fail
 refine HP2.out.mono ?_
 rintro e w19 ⟨v2,rfl,hv2,hb⟩
 rw [live_print] at hv2 ⊢
 have D19:=Lh (D18.out.trans (hb.mono D18.out.size))
 have E19:=Lh (E18.out.trans (hb.mono E18.out.size))
 have G19:=Lh (G18.out.trans (hb.mono G18.out.size))
 have P19:=Lh (P18.out.trans (hb.mono P18.out.size))
 have Q19:=Lh (Q18.out.trans (hb.mono Q18.out.size))
 have HV2:=Lh hv2
 have k2:=(E19.out.block B2 (gS KB2.out).1).trans KB2.out
 have k5:=(G19.out.block B5 (gS KB5.out).1).trans KB5.out
 have p0:w19.cell? ⟨B2,0,none⟩=some (.int .i64 13):=cH k2 rfl
 have p1:w19.cell? ⟨B2,1,none⟩=some (.string ⟨#[]⟩):=cH k2 rfl
 have p2:w19.cell? ⟨B2,2,none⟩=some (.int .i64 0):=cH k2 rfl
 have p3:w19.cell? ⟨B2,3,none⟩=some (.slice x.t.a 0 x.t.cap):=cH k2 rfl
 have p4:w19.cell? ⟨B2,4,none⟩=some (.slice x.b.a 0 x.b.cap):=cH k2 rfl
 have p5:w19.cell? ⟨B2,5,none⟩=some (.slice x.l.a 2 x.l.cap):=cH k2 rfl
 have q0:w19.cell? ⟨B5,0,none⟩=some (.int .i64 13):=cH k5 rfl
 have q1:w19.cell? ⟨B5,1,none⟩=some (.string ⟨#[]⟩):=cH k5 rfl
 have q2:w19.cell? ⟨B5,2,none⟩=some (.int .i64 0):=cH k5 rfl
 have q3:w19.cell? ⟨B5,3,none⟩=some (.slice none 0 0):=cH k5 rfl
 have q4:w19.cell? ⟨B5,4,none⟩=some (.slice none 0 0):=cH k5 rfl
 have q5:w19.cell? ⟨B5,5,none⟩=some (.slice (some ⟨R5,0,none⟩) 2 2):=cH k5 rfl
 have HSM:Hid (Calls Tryz.prog 16 #[.agg #[.int .i64 13,.string ⟨#[]⟩,.int .i64 0,.slice x.t.a 0 x.t.cap,.slice x.b.a 0 x.b.cap,.slice x.l.a 2 x.l.cap],.agg #[.int .i64 13,.string ⟨#[]⟩,.int .i64 0,.slice none 0 0,.slice none 0 0,.slice (some ⟨R5,0,none⟩) 2 2]] w19 (Answers w19 (frmEq liveF liveF))):=Lh (r6same_any _ liveF liveF w19 (Nat.le_refl _) live_fit x ⟨noS,noS,⟨some ⟨R5,0,none⟩,R5,0,2⟩⟩ (HX3.out.later E19.out E19.out.size) (F12.out.later G19.out G19.out.size))
 rw [frmEq_self] at HSM
 clear hb hv2 k2 k5 HP2
 go_wp2_with fail
 refine HSM.out.mono ?_
 rintro e w20 ⟨rfl,hb⟩
 have D20:=Lh (D19.out.trans (hb.mono D19.out.size))
 have E20:=Lh (E19.out.trans (hb.mono E19.out.size))
 have G20:=Lh (G19.out.trans (hb.mono G19.out.size))
 have P20:=Lh (P19.out.trans (hb.mono P19.out.size))
 have Q20:=Lh (Q19.out.trans (hb.mono Q19.out.size))
 have hcs:(convert 22 9 v1).run Tryz.prog w20=.ok (.string ss) w20:=by rw [<- HSS.out];exact bytesV_text (V13.out.below P20.out)
 have hcr:(convert 22 9 v2).run Tryz.prog w20=.ok (.string rr) w20:=by rw [<- HRR.out];exact bytesV_text (HV2.out.below hb)
 have hce:=HE.out.1.agree (agree_of_below Q20.out) HE.out.2
 rw [show 0*10=0 from rfl,Nat.add_zero] at hce
 obtain ⟨_,e1,_,e3,e4,_⟩:=CellsAt.ten' (w:=w20) (b:=z.b) (o:=z.o) hce
 have e1:w20.cell? ⟨z.b,z.o+1,none⟩=some (.bool true):=e1
 have e3:w20.cell? ⟨z.b,z.o+3,none⟩=some (.slice y.each.a 1 y.each.cap):=e3
 have e4:w20.cell? ⟨z.b,z.o+4,none⟩=some (.int .i64 15):=e4
 clear hb hce p0 q0 p1 q1 p2 q2 p3 q3 p4 q4 p5 q5
 go_wp2_with fail
 go_ret
 exact ⟨rfl,D20.out⟩
end Go.Proofs.YtpmalchlecnjbaaGreatDoor
