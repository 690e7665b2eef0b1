/- Joined texts: RXe, RXf, RXh, RXi. -/
import Derived.Test.YtpmalchlecnjbaaGreatDoorLCPrints73
import Derived.Test.YtpmalchlecnjbaaGreatDoorLCPrints71
import Derived.Test.YtpmalchlecnjbaaGreatDoorU39
import Derived.Test.YtpmalchlecnjbaaGreatDoorU29
set_option maxHeartbeats 4000000
set_option maxRecDepth 100000
set_option linter.unusedVariables false
set_option linter.unusedSimpArgs false
/- The reference's text, kind by kind. (written by tools/gen_rxe.py) -/
namespace Go.Chalk
theorem txtIn_ge (f:Frm) (k:Nat):(txtF f).length<=(txtIn f k).length:=by
 unfold txtIn
 split
 ·simp;omega
 ·exact Nat.le_refl _
end Go.Chalk
namespace Go.Proofs.YtpmalchlecnjbaaGreatDoor
open Go.RowKit Go.Chalk
attribute [local go_sem] Oper.semAt_some bs_app
theorem rtext_11 (g h:Frm) (hG:TextOk g) (hH:TextOk h):TextOk (.mk 11 [] 0 [] [] [g,h]):=by
 intro x w hx hlen
 have e:txtF (.mk 11 [] 0 [] [] [g,h])=txtIn g 3++([32,38,32]++txtIn h 4):=by rw [txtF_nil];simp [txtAt,txtIn]
 rw [e] at hlen
 simp only [List.length_append,List.length_cons,List.length_nil] at hlen
 obtain ⟨hla,hlb⟩:x.l.a=some ⟨x.l.b,x.l.o,none⟩/\x.l.b<w.heap.size:=by have:=hx.l.at_ (by simp [Frm.l]);exact this
 rw [hla]
 clear hla
 obtain ⟨W0,hW0⟩:∃ W0,W0=w.alloc (.cells #[.int .i64 11,.string ⟨#[]⟩,.int .i64 0,.slice x.t.a 0 x.t.cap,.slice x.b.a 0 x.b.cap,.slice (some ⟨x.l.b,x.l.o,none⟩) 2 x.l.cap] 28):=⟨_,rfl⟩
 obtain ⟨B,hB⟩:∃ B,B=w.heap.size:=⟨_,rfl⟩
 have hb0:Below w.heap.size w W0:=by rw [hW0];exact below_new _ _
 have hk:=heap_alloc_new w (.cells #[.int .i64 11,.string ⟨#[]⟩,.int .i64 0,.slice x.t.a 0 x.t.cap,.slice x.b.a 0 x.b.cap,.slice (some ⟨x.l.b,x.l.o,none⟩) 2 x.l.cap] 28)
 rw [<- hW0,<- hB] at hk
 have HB0:=Lh hb0
 have HW:=Lh (aI hW0 hB)
 have hLB:∀ W,Below W0.heap.size W0 W->Below w.heap.size w W:=fun W hW=>hb0.trans (hW.mono hb0.size)
 obtain ⟨y0,hy0,hc0⟩:∃ y,FrmIn w (·<w.heap.size) g y/\CellsAt w x.l.b (x.l.o+0) (y.cells g):=hx.l.frm 0 (by simp [Frm.l])
 obtain ⟨y1,hy1,hc1⟩:∃ y,FrmIn w (·<w.heap.size) h y/\CellsAt w x.l.b (x.l.o+6) (y.cells h):=hx.l.frm 1 (by simp [Frm.l])
 obtain ⟨p0,p1,p2,p3,p4,p5⟩:=CellsAt.six hc0
 obtain ⟨q0,q1,q2,q3,q4,q5⟩:=CellsAt.six hc1
 have hg1:=txtIn_ge g 3
 have hh1:=txtIn_ge h 4
 have HA0:Hid (∀ W,Below W0.heap.size W0 W->Calls Tryz.prog 92 #[.agg #[.int .i64 g.kind,.string ⟨g.name.toArray⟩,.int .i64 g.n,.slice y0.t.a g.terms.length y0.t.cap,.slice y0.b.a g.binds.length y0.b.cap,.slice y0.l.a g.l.length y0.l.cap],.int .i64 2] W fun e w'=>e=.returned (.string ⟨(txtIn g 3).toArray⟩)/\Below W.heap.size W w'):=Lh (fun W hW=>rat_any g hG y0 W (hy0.later (hLB W hW) (hLB W hW).size) 2 (by omega) (by omega))
 have HA1:Hid (∀ W,Below W0.heap.size W0 W->Calls Tryz.prog 92 #[.agg #[.int .i64 h.kind,.string ⟨h.name.toArray⟩,.int .i64 h.n,.slice y1.t.a h.terms.length y1.t.cap,.slice y1.b.a h.binds.length y1.b.cap,.slice y1.l.a h.l.length y1.l.cap],.int .i64 3] W fun e w'=>e=.returned (.string ⟨(txtIn h 4).toArray⟩)/\Below W.heap.size W w'):=Lh (fun W hW=>rat_any h hH y1 W (hy1.later (hLB W hW) (hLB W hW).size) 3 (by omega) (by omega))
 generalize txtIn g 3=a0 at e hlen hg1 HA0
 generalize txtIn h 4=a1 at e hlen hh1 HA1
 have HC:Hid (∀ W,Below W0.heap.size W0 W->W.cell? ⟨B,5,none⟩=some (.slice (some ⟨x.l.b,x.l.o,none⟩) 2 x.l.cap)/\W.cell? ⟨x.l.b,x.l.o,none⟩=some (.int .i64 g.kind)/\W.cell? ⟨x.l.b,x.l.o+1,none⟩=some (.string ⟨g.name.toArray⟩)/\W.cell? ⟨x.l.b,x.l.o+2,none⟩=some (.int .i64 g.n)/\W.cell? ⟨x.l.b,x.l.o+3,none⟩=some (.slice y0.t.a g.terms.length y0.t.cap)/\W.cell? ⟨x.l.b,x.l.o+4,none⟩=some (.slice y0.b.a g.binds.length y0.b.cap)/\W.cell? ⟨x.l.b,x.l.o+5,none⟩=some (.slice y0.l.a g.l.length y0.l.cap)/\W.cell? ⟨x.l.b,x.l.o+6,none⟩=some (.int .i64 h.kind)/\W.cell? ⟨x.l.b,x.l.o+7,none⟩=some (.string ⟨h.name.toArray⟩)/\W.cell? ⟨x.l.b,x.l.o+8,none⟩=some (.int .i64 h.n)/\W.cell? ⟨x.l.b,x.l.o+9,none⟩=some (.slice y1.t.a h.terms.length y1.t.cap)/\W.cell? ⟨x.l.b,x.l.o+10,none⟩=some (.slice y1.b.a h.binds.length y1.b.cap)/\W.cell? ⟨x.l.b,x.l.o+11,none⟩=some (.slice y1.l.a h.l.length y1.l.cap)):=Lh (fun W hW=>by
  have k1:=(hW.block B (gS hk).1).trans hk
  have hlow:=hLB W hW
  exact ⟨cH k1 rfl,(hlow.cell (p:=⟨x.l.b,x.l.o,none⟩) hlb).trans (by simpa using p0),(hlow.cell (p:=⟨x.l.b,x.l.o+1,none⟩) hlb).trans (by simpa using p1),(hlow.cell (p:=⟨x.l.b,x.l.o+2,none⟩) hlb).trans (by simpa using p2),(hlow.cell (p:=⟨x.l.b,x.l.o+3,none⟩) hlb).trans (by simpa using p3),(hlow.cell (p:=⟨x.l.b,x.l.o+4,none⟩) hlb).trans (by simpa using p4),(hlow.cell (p:=⟨x.l.b,x.l.o+5,none⟩) hlb).trans (by simpa using p5),(hlow.cell (p:=⟨x.l.b,x.l.o+6,none⟩) hlb).trans (by simpa using q0),(hlow.cell (p:=⟨x.l.b,x.l.o+7,none⟩) hlb).trans (by simpa using q1),(hlow.cell (p:=⟨x.l.b,x.l.o+8,none⟩) hlb).trans (by simpa using q2),(hlow.cell (p:=⟨x.l.b,x.l.o+9,none⟩) hlb).trans (by simpa using q3),(hlow.cell (p:=⟨x.l.b,x.l.o+10,none⟩) hlb).trans (by simpa using q4),(hlow.cell (p:=⟨x.l.b,x.l.o+11,none⟩) hlb).trans (by simpa using q5)⟩)
 obtain ⟨s1,hs1⟩:∃ s1,a0++[32,38,32]=s1:=⟨_,rfl⟩
 have ls1:s1.length=a0.length+3:=by rw [<- hs1];simp <;> omega
 obtain ⟨s2,hs2⟩:∃ s2,s1++a1=s2:=⟨_,rfl⟩
 have ls2:s2.length=s1.length+a1.length:=by rw [<- hs2];simp <;> omega
 have gs1:¬ 9223372036854775807<a0.length+3:=by omega
 have gs2:¬ 9223372036854775807<s1.length+a1.length:=by omega
 have hfin:txtF (.mk 11 [] 0 [] [] [g,h])=s2:=by rw [e,<- hs2,<- hs1];simp
 simp only [Frm.kind,Frm.name,Frm.n,Frm.terms,Frm.binds,Frm.l,List.length_cons,List.length_nil] at ⊢
 rw [hfin]
 clear hW0 hB hk hb0 hx e hlen hfin hLB ls1 ls2 hG hH hg1 hh1 hc0 hc1 hy0 hy1 hlb
 go_enter Tryz.func46,Tryz.ntmps46
 go_wp2_with fail
 rw [<- HW.out.1,<- HW.out.2]
 refine wp_region_U 12 (S:=fun W=>Below W0.heap.size W0 W) (by kernel_rfl) (Below.refl _ _).drew (fun hHeld=>?_)
 refine take_U (i:=0) (v:=?_) rfl (by kernel_rfl) (by kernel_rfl) (by kernel_rfl) (by kernel_rfl) (fun _ _ _ h=>h) (by rfl) ?_ hHeld ?_
 rotate_left
 ·intro w hSw;obtain ⟨b5,p0,p1,p2,p3,p4,p5,q0,q1,q2,q3,q4,q5⟩:=HC.out w hSw;go_simp;all_goals (with_reducible rfl)
 try simp only [Act.put,ub1,ub2,ub3]
 refine take_U (i:=6) (v:=?_) rfl (by kernel_rfl) (by kernel_rfl) (by kernel_rfl) (by kernel_rfl) (fun _ _ _ h=>h) (by rfl) ?_ hHeld ?_
 rotate_left
 ·intro w hSw;obtain ⟨b5,p0,p1,p2,p3,p4,p5,q0,q1,q2,q3,q4,q5⟩:=HC.out w hSw;go_simp;all_goals (with_reducible rfl)
 try simp only [Act.put,ub1,ub2,ub3]
 refine take_U (i:=1) (v:=?_) rfl (by kernel_rfl) (by kernel_rfl) (by kernel_rfl) (by kernel_rfl) (fun _ _ _ h=>h) (by rfl) ?_ hHeld ?_
 rotate_left
 ·intro w hSw;obtain ⟨b5,p0,p1,p2,p3,p4,p5,q0,q1,q2,q3,q4,q5⟩:=HC.out w hSw;go_simp;all_goals (with_reducible rfl)
 try simp only [Act.put,ub1,ub2,ub3]
 refine take_U (i:=7) (v:=?_) rfl (by kernel_rfl) (by kernel_rfl) (by kernel_rfl) (by kernel_rfl) (fun _ _ _ h=>h) (by rfl) ?_ hHeld ?_
 rotate_left
 ·intro w hSw;obtain ⟨b5,p0,p1,p2,p3,p4,p5,q0,q1,q2,q3,q4,q5⟩:=HC.out w hSw;go_simp;all_goals (with_reducible rfl)
 try simp only [Act.put,ub1,ub2,ub3]
 refine take_U (i:=2) (v:=?_) rfl (by kernel_rfl) (by kernel_rfl) (by kernel_rfl) (by kernel_rfl) (fun _ _ _ h=>h) (by rfl) ?_ hHeld ?_
 rotate_left
 ·intro w hSw;obtain ⟨b5,p0,p1,p2,p3,p4,p5,q0,q1,q2,q3,q4,q5⟩:=HC.out w hSw;go_simp;all_goals (with_reducible rfl)
 try simp only [Act.put,ub1,ub2,ub3]
 refine take_U (i:=8) (v:=?_) rfl (by kernel_rfl) (by kernel_rfl) (by kernel_rfl) (by kernel_rfl) (fun _ _ _ h=>h) (by rfl) ?_ hHeld ?_
 rotate_left
 ·intro w hSw;obtain ⟨b5,p0,p1,p2,p3,p4,p5,q0,q1,q2,q3,q4,q5⟩:=HC.out w hSw;go_simp;all_goals (with_reducible rfl)
 try simp only [Act.put,ub1,ub2,ub3]
 refine take_U (i:=3) (v:=?_) rfl (by kernel_rfl) (by kernel_rfl) (by kernel_rfl) (by kernel_rfl) (fun _ _ _ h=>h) (by rfl) ?_ hHeld ?_
 rotate_left
 ·intro w hSw;obtain ⟨b5,p0,p1,p2,p3,p4,p5,q0,q1,q2,q3,q4,q5⟩:=HC.out w hSw;go_simp;all_goals (with_reducible rfl)
 try simp only [Act.put,ub1,ub2,ub3]
 refine take_U (i:=9) (v:=?_) rfl (by kernel_rfl) (by kernel_rfl) (by kernel_rfl) (by kernel_rfl) (fun _ _ _ h=>h) (by rfl) ?_ hHeld ?_
 rotate_left
 ·intro w hSw;obtain ⟨b5,p0,p1,p2,p3,p4,p5,q0,q1,q2,q3,q4,q5⟩:=HC.out w hSw;go_simp;all_goals (with_reducible rfl)
 try simp only [Act.put,ub1,ub2,ub3]
 refine ready_U (rs:=[4]) (by kernel_rfl) (by simp) ?_
 refine cons_U rfl (fun K hK=>?_) nil_U
 go_simp
 refine (HA0.out _ hHeld).mono ?_
 rintro e w2 ⟨rfl,hb1⟩
 have HB1:=Lh hb1
 clear hb1
 go_simp
 refine hK.out _ _ ?_ (fun hHeld2=>?_)
 ·exact Below.trans hHeld (Below.mono HB1.out (Below.size hHeld))
 clear hK K hHeld
 have hHeld:=hHeld2
 clear hHeld2
 try simp only [Act.put,ub1,ub2,ub3]
 refine take_U (i:=5) (v:=?_) rfl (by kernel_rfl) (by kernel_rfl) (by kernel_rfl) (by kernel_rfl) (fun _ _ _ h=>h) (by rfl) ?_ hHeld ?_
 rotate_left
 ·intro w hSw;obtain ⟨b5,p0,p1,p2,p3,p4,p5,q0,q1,q2,q3,q4,q5⟩:=HC.out w hSw;go_simp;all_goals (with_reducible rfl)
 try simp only [Act.put,ub1,ub2,ub3]
 refine ready_U (rs:=[10]) (by kernel_rfl) (by simp) ?_
 refine cons_U rfl (fun K hK=>?_) nil_U
 go_simp
 refine (HA1.out _ hHeld).mono ?_
 rintro e w3 ⟨rfl,hb2⟩
 have HB2:=Lh hb2
 clear hb2
 go_simp
 refine hK.out _ _ ?_ (fun hHeld2=>?_)
 ·exact Below.trans hHeld (Below.mono HB2.out (Below.size hHeld))
 clear hK K hHeld
 have hHeld:=hHeld2
 clear hHeld2
 try simp only [Act.put,ub1,ub2,ub3]
 refine take_U (i:=11) (v:=?_) rfl (by kernel_rfl) (by kernel_rfl) (by kernel_rfl) (by kernel_rfl) (fun _ _ _ h=>h) (by rfl) ?_ hHeld ?_
 rotate_left
 ·intro w hSw;obtain ⟨b5,p0,p1,p2,p3,p4,p5,q0,q1,q2,q3,q4,q5⟩:=HC.out w hSw;go_simp;all_goals (with_reducible rfl)
 try simp only [Act.put,ub1,ub2,ub3]
 refine ready_U (rs:=[12]) (by kernel_rfl) (by simp) ?_
 refine cons_V rfl (by kernel_rfl) (fun K hK=>?_) nil_U
 go_simp
 refine hK.out _ _ ?_
 clear hK K
 try simp only [Act.put,ub1,ub2,ub3]
 refine done_U (by kernel_rfl) ?_ _
 go_wp2_with fail
 go_ret
 exact ⟨rfl,HB0.out.trans (Below.mono hHeld HB0.out.size)⟩
theorem rtext_12 (g h:Frm) (hG:TextOk g) (hH:TextOk h):TextOk (.mk 12 [] 0 [] [] [g,h]):=by
 intro x w hx hlen
 have e:txtF (.mk 12 [] 0 [] [] [g,h])=txtIn g 2++([32,124,32]++txtIn h 3):=by rw [txtF_nil];simp [txtAt,txtIn]
 rw [e] at hlen
 simp only [List.length_append,List.length_cons,List.length_nil] at hlen
 obtain ⟨hla,hlb⟩:x.l.a=some ⟨x.l.b,x.l.o,none⟩/\x.l.b<w.heap.size:=by have:=hx.l.at_ (by simp [Frm.l]);exact this
 rw [hla]
 clear hla
 obtain ⟨W0,hW0⟩:∃ W0,W0=w.alloc (.cells #[.int .i64 12,.string ⟨#[]⟩,.int .i64 0,.slice x.t.a 0 x.t.cap,.slice x.b.a 0 x.b.cap,.slice (some ⟨x.l.b,x.l.o,none⟩) 2 x.l.cap] 28):=⟨_,rfl⟩
 obtain ⟨B,hB⟩:∃ B,B=w.heap.size:=⟨_,rfl⟩
 have hb0:Below w.heap.size w W0:=by rw [hW0];exact below_new _ _
 have hk:=heap_alloc_new w (.cells #[.int .i64 12,.string ⟨#[]⟩,.int .i64 0,.slice x.t.a 0 x.t.cap,.slice x.b.a 0 x.b.cap,.slice (some ⟨x.l.b,x.l.o,none⟩) 2 x.l.cap] 28)
 rw [<- hW0,<- hB] at hk
 have HB0:=Lh hb0
 have HW:=Lh (aI hW0 hB)
 have hLB:∀ W,Below W0.heap.size W0 W->Below w.heap.size w W:=fun W hW=>hb0.trans (hW.mono hb0.size)
 obtain ⟨y0,hy0,hc0⟩:∃ y,FrmIn w (·<w.heap.size) g y/\CellsAt w x.l.b (x.l.o+0) (y.cells g):=hx.l.frm 0 (by simp [Frm.l])
 obtain ⟨y1,hy1,hc1⟩:∃ y,FrmIn w (·<w.heap.size) h y/\CellsAt w x.l.b (x.l.o+6) (y.cells h):=hx.l.frm 1 (by simp [Frm.l])
 obtain ⟨p0,p1,p2,p3,p4,p5⟩:=CellsAt.six hc0
 obtain ⟨q0,q1,q2,q3,q4,q5⟩:=CellsAt.six hc1
 have hg1:=txtIn_ge g 2
 have hh1:=txtIn_ge h 3
 have HA0:Hid (∀ W,Below W0.heap.size W0 W->Calls Tryz.prog 92 #[.agg #[.int .i64 g.kind,.string ⟨g.name.toArray⟩,.int .i64 g.n,.slice y0.t.a g.terms.length y0.t.cap,.slice y0.b.a g.binds.length y0.b.cap,.slice y0.l.a g.l.length y0.l.cap],.int .i64 1] W fun e w'=>e=.returned (.string ⟨(txtIn g 2).toArray⟩)/\Below W.heap.size W w'):=Lh (fun W hW=>rat_any g hG y0 W (hy0.later (hLB W hW) (hLB W hW).size) 1 (by omega) (by omega))
 have HA1:Hid (∀ W,Below W0.heap.size W0 W->Calls Tryz.prog 92 #[.agg #[.int .i64 h.kind,.string ⟨h.name.toArray⟩,.int .i64 h.n,.slice y1.t.a h.terms.length y1.t.cap,.slice y1.b.a h.binds.length y1.b.cap,.slice y1.l.a h.l.length y1.l.cap],.int .i64 2] W fun e w'=>e=.returned (.string ⟨(txtIn h 3).toArray⟩)/\Below W.heap.size W w'):=Lh (fun W hW=>rat_any h hH y1 W (hy1.later (hLB W hW) (hLB W hW).size) 2 (by omega) (by omega))
 generalize txtIn g 2=a0 at e hlen hg1 HA0
 generalize txtIn h 3=a1 at e hlen hh1 HA1
 have HC:Hid (∀ W,Below W0.heap.size W0 W->W.cell? ⟨B,5,none⟩=some (.slice (some ⟨x.l.b,x.l.o,none⟩) 2 x.l.cap)/\W.cell? ⟨x.l.b,x.l.o,none⟩=some (.int .i64 g.kind)/\W.cell? ⟨x.l.b,x.l.o+1,none⟩=some (.string ⟨g.name.toArray⟩)/\W.cell? ⟨x.l.b,x.l.o+2,none⟩=some (.int .i64 g.n)/\W.cell? ⟨x.l.b,x.l.o+3,none⟩=some (.slice y0.t.a g.terms.length y0.t.cap)/\W.cell? ⟨x.l.b,x.l.o+4,none⟩=some (.slice y0.b.a g.binds.length y0.b.cap)/\W.cell? ⟨x.l.b,x.l.o+5,none⟩=some (.slice y0.l.a g.l.length y0.l.cap)/\W.cell? ⟨x.l.b,x.l.o+6,none⟩=some (.int .i64 h.kind)/\W.cell? ⟨x.l.b,x.l.o+7,none⟩=some (.string ⟨h.name.toArray⟩)/\W.cell? ⟨x.l.b,x.l.o+8,none⟩=some (.int .i64 h.n)/\W.cell? ⟨x.l.b,x.l.o+9,none⟩=some (.slice y1.t.a h.terms.length y1.t.cap)/\W.cell? ⟨x.l.b,x.l.o+10,none⟩=some (.slice y1.b.a h.binds.length y1.b.cap)/\W.cell? ⟨x.l.b,x.l.o+11,none⟩=some (.slice y1.l.a h.l.length y1.l.cap)):=Lh (fun W hW=>by
  have k1:=(hW.block B (gS hk).1).trans hk
  have hlow:=hLB W hW
  exact ⟨cH k1 rfl,(hlow.cell (p:=⟨x.l.b,x.l.o,none⟩) hlb).trans (by simpa using p0),(hlow.cell (p:=⟨x.l.b,x.l.o+1,none⟩) hlb).trans (by simpa using p1),(hlow.cell (p:=⟨x.l.b,x.l.o+2,none⟩) hlb).trans (by simpa using p2),(hlow.cell (p:=⟨x.l.b,x.l.o+3,none⟩) hlb).trans (by simpa using p3),(hlow.cell (p:=⟨x.l.b,x.l.o+4,none⟩) hlb).trans (by simpa using p4),(hlow.cell (p:=⟨x.l.b,x.l.o+5,none⟩) hlb).trans (by simpa using p5),(hlow.cell (p:=⟨x.l.b,x.l.o+6,none⟩) hlb).trans (by simpa using q0),(hlow.cell (p:=⟨x.l.b,x.l.o+7,none⟩) hlb).trans (by simpa using q1),(hlow.cell (p:=⟨x.l.b,x.l.o+8,none⟩) hlb).trans (by simpa using q2),(hlow.cell (p:=⟨x.l.b,x.l.o+9,none⟩) hlb).trans (by simpa using q3),(hlow.cell (p:=⟨x.l.b,x.l.o+10,none⟩) hlb).trans (by simpa using q4),(hlow.cell (p:=⟨x.l.b,x.l.o+11,none⟩) hlb).trans (by simpa using q5)⟩)
 obtain ⟨s1,hs1⟩:∃ s1,a0++[32,124,32]=s1:=⟨_,rfl⟩
 have ls1:s1.length=a0.length+3:=by rw [<- hs1];simp <;> omega
 obtain ⟨s2,hs2⟩:∃ s2,s1++a1=s2:=⟨_,rfl⟩
 have ls2:s2.length=s1.length+a1.length:=by rw [<- hs2];simp <;> omega
 have gs1:¬ 9223372036854775807<a0.length+3:=by omega
 have gs2:¬ 9223372036854775807<s1.length+a1.length:=by omega
 have hfin:txtF (.mk 12 [] 0 [] [] [g,h])=s2:=by rw [e,<- hs2,<- hs1];simp
 simp only [Frm.kind,Frm.name,Frm.n,Frm.terms,Frm.binds,Frm.l,List.length_cons,List.length_nil] at ⊢
 rw [hfin]
 clear hW0 hB hk hb0 hx e hlen hfin hLB ls1 ls2 hG hH hg1 hh1 hc0 hc1 hy0 hy1 hlb
 go_enter Tryz.func46,Tryz.ntmps46
 go_wp2_with fail
 rw [<- HW.out.1,<- HW.out.2]
 refine wp_region_U 12 (S:=fun W=>Below W0.heap.size W0 W) (by kernel_rfl) (Below.refl _ _).drew (fun hHeld=>?_)
 refine take_U (i:=0) (v:=?_) rfl (by kernel_rfl) (by kernel_rfl) (by kernel_rfl) (by kernel_rfl) (fun _ _ _ h=>h) (by rfl) ?_ hHeld ?_
 rotate_left
 ·intro w hSw;obtain ⟨b5,p0,p1,p2,p3,p4,p5,q0,q1,q2,q3,q4,q5⟩:=HC.out w hSw;go_simp;all_goals (with_reducible rfl)
 try simp only [Act.put,ub1,ub2,ub3]
 refine take_U (i:=6) (v:=?_) rfl (by kernel_rfl) (by kernel_rfl) (by kernel_rfl) (by kernel_rfl) (fun _ _ _ h=>h) (by rfl) ?_ hHeld ?_
 rotate_left
 ·intro w hSw;obtain ⟨b5,p0,p1,p2,p3,p4,p5,q0,q1,q2,q3,q4,q5⟩:=HC.out w hSw;go_simp;all_goals (with_reducible rfl)
 try simp only [Act.put,ub1,ub2,ub3]
 refine take_U (i:=1) (v:=?_) rfl (by kernel_rfl) (by kernel_rfl) (by kernel_rfl) (by kernel_rfl) (fun _ _ _ h=>h) (by rfl) ?_ hHeld ?_
 rotate_left
 ·intro w hSw;obtain ⟨b5,p0,p1,p2,p3,p4,p5,q0,q1,q2,q3,q4,q5⟩:=HC.out w hSw;go_simp;all_goals (with_reducible rfl)
 try simp only [Act.put,ub1,ub2,ub3]
 refine take_U (i:=7) (v:=?_) rfl (by kernel_rfl) (by kernel_rfl) (by kernel_rfl) (by kernel_rfl) (fun _ _ _ h=>h) (by rfl) ?_ hHeld ?_
 rotate_left
 ·intro w hSw;obtain ⟨b5,p0,p1,p2,p3,p4,p5,q0,q1,q2,q3,q4,q5⟩:=HC.out w hSw;go_simp;all_goals (with_reducible rfl)
 try simp only [Act.put,ub1,ub2,ub3]
 refine take_U (i:=2) (v:=?_) rfl (by kernel_rfl) (by kernel_rfl) (by kernel_rfl) (by kernel_rfl) (fun _ _ _ h=>h) (by rfl) ?_ hHeld ?_
 rotate_left
 ·intro w hSw;obtain ⟨b5,p0,p1,p2,p3,p4,p5,q0,q1,q2,q3,q4,q5⟩:=HC.out w hSw;go_simp;all_goals (with_reducible rfl)
 try simp only [Act.put,ub1,ub2,ub3]
 refine take_U (i:=8) (v:=?_) rfl (by kernel_rfl) (by kernel_rfl) (by kernel_rfl) (by kernel_rfl) (fun _ _ _ h=>h) (by rfl) ?_ hHeld ?_
 rotate_left
 ·intro w hSw;obtain ⟨b5,p0,p1,p2,p3,p4,p5,q0,q1,q2,q3,q4,q5⟩:=HC.out w hSw;go_simp;all_goals (with_reducible rfl)
 try simp only [Act.put,ub1,ub2,ub3]
 refine take_U (i:=3) (v:=?_) rfl (by kernel_rfl) (by kernel_rfl) (by kernel_rfl) (by kernel_rfl) (fun _ _ _ h=>h) (by rfl) ?_ hHeld ?_
 rotate_left
 ·intro w hSw;obtain ⟨b5,p0,p1,p2,p3,p4,p5,q0,q1,q2,q3,q4,q5⟩:=HC.out w hSw;go_simp;all_goals (with_reducible rfl)
 try simp only [Act.put,ub1,ub2,ub3]
 refine take_U (i:=9) (v:=?_) rfl (by kernel_rfl) (by kernel_rfl) (by kernel_rfl) (by kernel_rfl) (fun _ _ _ h=>h) (by rfl) ?_ hHeld ?_
 rotate_left
 ·intro w hSw;obtain ⟨b5,p0,p1,p2,p3,p4,p5,q0,q1,q2,q3,q4,q5⟩:=HC.out w hSw;go_simp;all_goals (with_reducible rfl)
 try simp only [Act.put,ub1,ub2,ub3]
 refine ready_U (rs:=[4]) (by kernel_rfl) (by simp) ?_
 refine cons_U rfl (fun K hK=>?_) nil_U
 go_simp
 refine (HA0.out _ hHeld).mono ?_
 rintro e w2 ⟨rfl,hb1⟩
 have HB1:=Lh hb1
 clear hb1
 go_simp
 refine hK.out _ _ ?_ (fun hHeld2=>?_)
 ·exact Below.trans hHeld (Below.mono HB1.out (Below.size hHeld))
 clear hK K hHeld
 have hHeld:=hHeld2
 clear hHeld2
 try simp only [Act.put,ub1,ub2,ub3]
 refine take_U (i:=5) (v:=?_) rfl (by kernel_rfl) (by kernel_rfl) (by kernel_rfl) (by kernel_rfl) (fun _ _ _ h=>h) (by rfl) ?_ hHeld ?_
 rotate_left
 ·intro w hSw;obtain ⟨b5,p0,p1,p2,p3,p4,p5,q0,q1,q2,q3,q4,q5⟩:=HC.out w hSw;go_simp;all_goals (with_reducible rfl)
 try simp only [Act.put,ub1,ub2,ub3]
 refine ready_U (rs:=[10]) (by kernel_rfl) (by simp) ?_
 refine cons_U rfl (fun K hK=>?_) nil_U
 go_simp
 refine (HA1.out _ hHeld).mono ?_
 rintro e w3 ⟨rfl,hb2⟩
 have HB2:=Lh hb2
 clear hb2
 go_simp
 refine hK.out _ _ ?_ (fun hHeld2=>?_)
 ·exact Below.trans hHeld (Below.mono HB2.out (Below.size hHeld))
 clear hK K hHeld
 have hHeld:=hHeld2
 clear hHeld2
 try simp only [Act.put,ub1,ub2,ub3]
 refine take_U (i:=11) (v:=?_) rfl (by kernel_rfl) (by kernel_rfl) (by kernel_rfl) (by kernel_rfl) (fun _ _ _ h=>h) (by rfl) ?_ hHeld ?_
 rotate_left
 ·intro w hSw;obtain ⟨b5,p0,p1,p2,p3,p4,p5,q0,q1,q2,q3,q4,q5⟩:=HC.out w hSw;go_simp;all_goals (with_reducible rfl)
 try simp only [Act.put,ub1,ub2,ub3]
 refine ready_U (rs:=[12]) (by kernel_rfl) (by simp) ?_
 refine cons_V rfl (by kernel_rfl) (fun K hK=>?_) nil_U
 go_simp
 refine hK.out _ _ ?_
 clear hK K
 try simp only [Act.put,ub1,ub2,ub3]
 refine done_U (by kernel_rfl) ?_ _
 go_wp2_with fail
 go_ret
 exact ⟨rfl,HB0.out.trans (Below.mono hHeld HB0.out.size)⟩
theorem rtext_13 (g h:Frm) (hG:TextOk g) (hH:TextOk h):TextOk (.mk 13 [] 0 [] [] [g,h]):=by
 intro x w hx hlen
 have e:txtF (.mk 13 [] 0 [] [] [g,h])=txtIn g 2++([32,45,62,32]++txtIn h 1):=by rw [txtF_nil];simp [txtAt,txtIn]
 rw [e] at hlen
 simp only [List.length_append,List.length_cons,List.length_nil] at hlen
 obtain ⟨hla,hlb⟩:x.l.a=some ⟨x.l.b,x.l.o,none⟩/\x.l.b<w.heap.size:=by have:=hx.l.at_ (by simp [Frm.l]);exact this
 rw [hla]
 clear hla
 obtain ⟨W0,hW0⟩:∃ W0,W0=w.alloc (.cells #[.int .i64 13,.string ⟨#[]⟩,.int .i64 0,.slice x.t.a 0 x.t.cap,.slice x.b.a 0 x.b.cap,.slice (some ⟨x.l.b,x.l.o,none⟩) 2 x.l.cap] 28):=⟨_,rfl⟩
 obtain ⟨B,hB⟩:∃ B,B=w.heap.size:=⟨_,rfl⟩
 have hb0:Below w.heap.size w W0:=by rw [hW0];exact below_new _ _
 have hk:=heap_alloc_new w (.cells #[.int .i64 13,.string ⟨#[]⟩,.int .i64 0,.slice x.t.a 0 x.t.cap,.slice x.b.a 0 x.b.cap,.slice (some ⟨x.l.b,x.l.o,none⟩) 2 x.l.cap] 28)
 rw [<- hW0,<- hB] at hk
 have HB0:=Lh hb0
 have HW:=Lh (aI hW0 hB)
 have hLB:∀ W,Below W0.heap.size W0 W->Below w.heap.size w W:=fun W hW=>hb0.trans (hW.mono hb0.size)
 obtain ⟨y0,hy0,hc0⟩:∃ y,FrmIn w (·<w.heap.size) g y/\CellsAt w x.l.b (x.l.o+0) (y.cells g):=hx.l.frm 0 (by simp [Frm.l])
 obtain ⟨y1,hy1,hc1⟩:∃ y,FrmIn w (·<w.heap.size) h y/\CellsAt w x.l.b (x.l.o+6) (y.cells h):=hx.l.frm 1 (by simp [Frm.l])
 obtain ⟨p0,p1,p2,p3,p4,p5⟩:=CellsAt.six hc0
 obtain ⟨q0,q1,q2,q3,q4,q5⟩:=CellsAt.six hc1
 have hg1:=txtIn_ge g 2
 have hh1:=txtIn_ge h 1
 have HA0:Hid (∀ W,Below W0.heap.size W0 W->Calls Tryz.prog 92 #[.agg #[.int .i64 g.kind,.string ⟨g.name.toArray⟩,.int .i64 g.n,.slice y0.t.a g.terms.length y0.t.cap,.slice y0.b.a g.binds.length y0.b.cap,.slice y0.l.a g.l.length y0.l.cap],.int .i64 1] W fun e w'=>e=.returned (.string ⟨(txtIn g 2).toArray⟩)/\Below W.heap.size W w'):=Lh (fun W hW=>rat_any g hG y0 W (hy0.later (hLB W hW) (hLB W hW).size) 1 (by omega) (by omega))
 have HA1:Hid (∀ W,Below W0.heap.size W0 W->Calls Tryz.prog 92 #[.agg #[.int .i64 h.kind,.string ⟨h.name.toArray⟩,.int .i64 h.n,.slice y1.t.a h.terms.length y1.t.cap,.slice y1.b.a h.binds.length y1.b.cap,.slice y1.l.a h.l.length y1.l.cap],.int .i64 0] W fun e w'=>e=.returned (.string ⟨(txtIn h 1).toArray⟩)/\Below W.heap.size W w'):=Lh (fun W hW=>rat_any h hH y1 W (hy1.later (hLB W hW) (hLB W hW).size) 0 (by omega) (by omega))
 generalize txtIn g 2=a0 at e hlen hg1 HA0
 generalize txtIn h 1=a1 at e hlen hh1 HA1
 have HC:Hid (∀ W,Below W0.heap.size W0 W->W.cell? ⟨B,5,none⟩=some (.slice (some ⟨x.l.b,x.l.o,none⟩) 2 x.l.cap)/\W.cell? ⟨x.l.b,x.l.o,none⟩=some (.int .i64 g.kind)/\W.cell? ⟨x.l.b,x.l.o+1,none⟩=some (.string ⟨g.name.toArray⟩)/\W.cell? ⟨x.l.b,x.l.o+2,none⟩=some (.int .i64 g.n)/\W.cell? ⟨x.l.b,x.l.o+3,none⟩=some (.slice y0.t.a g.terms.length y0.t.cap)/\W.cell? ⟨x.l.b,x.l.o+4,none⟩=some (.slice y0.b.a g.binds.length y0.b.cap)/\W.cell? ⟨x.l.b,x.l.o+5,none⟩=some (.slice y0.l.a g.l.length y0.l.cap)/\W.cell? ⟨x.l.b,x.l.o+6,none⟩=some (.int .i64 h.kind)/\W.cell? ⟨x.l.b,x.l.o+7,none⟩=some (.string ⟨h.name.toArray⟩)/\W.cell? ⟨x.l.b,x.l.o+8,none⟩=some (.int .i64 h.n)/\W.cell? ⟨x.l.b,x.l.o+9,none⟩=some (.slice y1.t.a h.terms.length y1.t.cap)/\W.cell? ⟨x.l.b,x.l.o+10,none⟩=some (.slice y1.b.a h.binds.length y1.b.cap)/\W.cell? ⟨x.l.b,x.l.o+11,none⟩=some (.slice y1.l.a h.l.length y1.l.cap)):=Lh (fun W hW=>by
  have k1:=(hW.block B (gS hk).1).trans hk
  have hlow:=hLB W hW
  exact ⟨cH k1 rfl,(hlow.cell (p:=⟨x.l.b,x.l.o,none⟩) hlb).trans (by simpa using p0),(hlow.cell (p:=⟨x.l.b,x.l.o+1,none⟩) hlb).trans (by simpa using p1),(hlow.cell (p:=⟨x.l.b,x.l.o+2,none⟩) hlb).trans (by simpa using p2),(hlow.cell (p:=⟨x.l.b,x.l.o+3,none⟩) hlb).trans (by simpa using p3),(hlow.cell (p:=⟨x.l.b,x.l.o+4,none⟩) hlb).trans (by simpa using p4),(hlow.cell (p:=⟨x.l.b,x.l.o+5,none⟩) hlb).trans (by simpa using p5),(hlow.cell (p:=⟨x.l.b,x.l.o+6,none⟩) hlb).trans (by simpa using q0),(hlow.cell (p:=⟨x.l.b,x.l.o+7,none⟩) hlb).trans (by simpa using q1),(hlow.cell (p:=⟨x.l.b,x.l.o+8,none⟩) hlb).trans (by simpa using q2),(hlow.cell (p:=⟨x.l.b,x.l.o+9,none⟩) hlb).trans (by simpa using q3),(hlow.cell (p:=⟨x.l.b,x.l.o+10,none⟩) hlb).trans (by simpa using q4),(hlow.cell (p:=⟨x.l.b,x.l.o+11,none⟩) hlb).trans (by simpa using q5)⟩)
 obtain ⟨s1,hs1⟩:∃ s1,a0++[32,45,62,32]=s1:=⟨_,rfl⟩
 have ls1:s1.length=a0.length+4:=by rw [<- hs1];simp <;> omega
 obtain ⟨s2,hs2⟩:∃ s2,s1++a1=s2:=⟨_,rfl⟩
 have ls2:s2.length=s1.length+a1.length:=by rw [<- hs2];simp <;> omega
 have gs1:¬ 9223372036854775807<a0.length+4:=by omega
 have gs2:¬ 9223372036854775807<s1.length+a1.length:=by omega
 have hfin:txtF (.mk 13 [] 0 [] [] [g,h])=s2:=by rw [e,<- hs2,<- hs1];simp
 simp only [Frm.kind,Frm.name,Frm.n,Frm.terms,Frm.binds,Frm.l,List.length_cons,List.length_nil] at ⊢
 rw [hfin]
 clear hW0 hB hk hb0 hx e hlen hfin hLB ls1 ls2 hG hH hg1 hh1 hc0 hc1 hy0 hy1 hlb
 go_enter Tryz.func46,Tryz.ntmps46
 go_wp2_with fail
 rw [<- HW.out.1,<- HW.out.2]
 refine wp_region_U 12 (S:=fun W=>Below W0.heap.size W0 W) (by kernel_rfl) (Below.refl _ _).drew (fun hHeld=>?_)
 refine take_U (i:=0) (v:=?_) rfl (by kernel_rfl) (by kernel_rfl) (by kernel_rfl) (by kernel_rfl) (fun _ _ _ h=>h) (by rfl) ?_ hHeld ?_
 rotate_left
 ·intro w hSw;obtain ⟨b5,p0,p1,p2,p3,p4,p5,q0,q1,q2,q3,q4,q5⟩:=HC.out w hSw;go_simp;all_goals (with_reducible rfl)
 try simp only [Act.put,ub1,ub2,ub3]
 refine take_U (i:=6) (v:=?_) rfl (by kernel_rfl) (by kernel_rfl) (by kernel_rfl) (by kernel_rfl) (fun _ _ _ h=>h) (by rfl) ?_ hHeld ?_
 rotate_left
 ·intro w hSw;obtain ⟨b5,p0,p1,p2,p3,p4,p5,q0,q1,q2,q3,q4,q5⟩:=HC.out w hSw;go_simp;all_goals (with_reducible rfl)
 try simp only [Act.put,ub1,ub2,ub3]
 refine take_U (i:=1) (v:=?_) rfl (by kernel_rfl) (by kernel_rfl) (by kernel_rfl) (by kernel_rfl) (fun _ _ _ h=>h) (by rfl) ?_ hHeld ?_
 rotate_left
 ·intro w hSw;obtain ⟨b5,p0,p1,p2,p3,p4,p5,q0,q1,q2,q3,q4,q5⟩:=HC.out w hSw;go_simp;all_goals (with_reducible rfl)
 try simp only [Act.put,ub1,ub2,ub3]
 refine take_U (i:=7) (v:=?_) rfl (by kernel_rfl) (by kernel_rfl) (by kernel_rfl) (by kernel_rfl) (fun _ _ _ h=>h) (by rfl) ?_ hHeld ?_
 rotate_left
 ·intro w hSw;obtain ⟨b5,p0,p1,p2,p3,p4,p5,q0,q1,q2,q3,q4,q5⟩:=HC.out w hSw;go_simp;all_goals (with_reducible rfl)
 try simp only [Act.put,ub1,ub2,ub3]
 refine take_U (i:=2) (v:=?_) rfl (by kernel_rfl) (by kernel_rfl) (by kernel_rfl) (by kernel_rfl) (fun _ _ _ h=>h) (by rfl) ?_ hHeld ?_
 rotate_left
 ·intro w hSw;obtain ⟨b5,p0,p1,p2,p3,p4,p5,q0,q1,q2,q3,q4,q5⟩:=HC.out w hSw;go_simp;all_goals (with_reducible rfl)
 try simp only [Act.put,ub1,ub2,ub3]
 refine take_U (i:=8) (v:=?_) rfl (by kernel_rfl) (by kernel_rfl) (by kernel_rfl) (by kernel_rfl) (fun _ _ _ h=>h) (by rfl) ?_ hHeld ?_
 rotate_left
 ·intro w hSw;obtain ⟨b5,p0,p1,p2,p3,p4,p5,q0,q1,q2,q3,q4,q5⟩:=HC.out w hSw;go_simp;all_goals (with_reducible rfl)
 try simp only [Act.put,ub1,ub2,ub3]
 refine take_U (i:=3) (v:=?_) rfl (by kernel_rfl) (by kernel_rfl) (by kernel_rfl) (by kernel_rfl) (fun _ _ _ h=>h) (by rfl) ?_ hHeld ?_
 rotate_left
 ·intro w hSw;obtain ⟨b5,p0,p1,p2,p3,p4,p5,q0,q1,q2,q3,q4,q5⟩:=HC.out w hSw;go_simp;all_goals (with_reducible rfl)
 try simp only [Act.put,ub1,ub2,ub3]
 refine take_U (i:=9) (v:=?_) rfl (by kernel_rfl) (by kernel_rfl) (by kernel_rfl) (by kernel_rfl) (fun _ _ _ h=>h) (by rfl) ?_ hHeld ?_
 rotate_left
 ·intro w hSw;obtain ⟨b5,p0,p1,p2,p3,p4,p5,q0,q1,q2,q3,q4,q5⟩:=HC.out w hSw;go_simp;all_goals (with_reducible rfl)
 try simp only [Act.put,ub1,ub2,ub3]
 refine ready_U (rs:=[4]) (by kernel_rfl) (by simp) ?_
 refine cons_U rfl (fun K hK=>?_) nil_U
 go_simp
 refine (HA0.out _ hHeld).mono ?_
 rintro e w2 ⟨rfl,hb1⟩
 have HB1:=Lh hb1
 clear hb1
 go_simp
 refine hK.out _ _ ?_ (fun hHeld2=>?_)
 ·exact Below.trans hHeld (Below.mono HB1.out (Below.size hHeld))
 clear hK K hHeld
 have hHeld:=hHeld2
 clear hHeld2
 try simp only [Act.put,ub1,ub2,ub3]
 refine take_U (i:=5) (v:=?_) rfl (by kernel_rfl) (by kernel_rfl) (by kernel_rfl) (by kernel_rfl) (fun _ _ _ h=>h) (by rfl) ?_ hHeld ?_
 rotate_left
 ·intro w hSw;obtain ⟨b5,p0,p1,p2,p3,p4,p5,q0,q1,q2,q3,q4,q5⟩:=HC.out w hSw;go_simp;all_goals (with_reducible rfl)
 try simp only [Act.put,ub1,ub2,ub3]
 refine ready_U (rs:=[10]) (by kernel_rfl) (by simp) ?_
 refine cons_U rfl (fun K hK=>?_) nil_U
 go_simp
 refine (HA1.out _ hHeld).mono ?_
 rintro e w3 ⟨rfl,hb2⟩
 have HB2:=Lh hb2
 clear hb2
 go_simp
 refine hK.out _ _ ?_ (fun hHeld2=>?_)
 ·exact Below.trans hHeld (Below.mono HB2.out (Below.size hHeld))
 clear hK K hHeld
 have hHeld:=hHeld2
 clear hHeld2
 try simp only [Act.put,ub1,ub2,ub3]
 refine take_U (i:=11) (v:=?_) rfl (by kernel_rfl) (by kernel_rfl) (by kernel_rfl) (by kernel_rfl) (fun _ _ _ h=>h) (by rfl) ?_ hHeld ?_
 rotate_left
 ·intro w hSw;obtain ⟨b5,p0,p1,p2,p3,p4,p5,q0,q1,q2,q3,q4,q5⟩:=HC.out w hSw;go_simp;all_goals (with_reducible rfl)
 try simp only [Act.put,ub1,ub2,ub3]
 refine ready_U (rs:=[12]) (by kernel_rfl) (by simp) ?_
 refine cons_V rfl (by kernel_rfl) (fun K hK=>?_) nil_U
 go_simp
 refine hK.out _ _ ?_
 clear hK K
 try simp only [Act.put,ub1,ub2,ub3]
 refine done_U (by kernel_rfl) ?_ _
 go_wp2_with fail
 go_ret
 exact ⟨rfl,HB0.out.trans (Below.mono hHeld HB0.out.size)⟩
theorem rtext_9 (nm:Bs) (t u:Trm) (ht:termedF t=true) (hu:termedF u=true):TextOk (.mk 9 nm 0 [t,u] [] []):=by
 intro x w hx hlen
 have e:txtF (.mk 9 nm 0 [t,u] [] [])=txtTerm t++([32]++(nm++([32]++txtTerm u))):=by rw [txtF_two];rfl
 rw [e] at hlen
 simp only [List.length_append,List.length_cons,List.length_nil] at hlen
 obtain ⟨hla,hlb⟩:x.t.a=some ⟨x.t.b,x.t.o,none⟩/\x.t.b<w.heap.size:=by have:=hx.terms.at_ (by simp [Frm.terms]);exact this
 rw [hla]
 clear hla
 obtain ⟨W0,hW0⟩:∃ W0,W0=w.alloc (.cells #[.int .i64 9,.string ⟨nm.toArray⟩,.int .i64 0,.slice (some ⟨x.t.b,x.t.o,none⟩) 2 x.t.cap,.slice x.b.a 0 x.b.cap,.slice x.l.a 0 x.l.cap] 28):=⟨_,rfl⟩
 obtain ⟨B,hB⟩:∃ B,B=w.heap.size:=⟨_,rfl⟩
 have hb0:Below w.heap.size w W0:=by rw [hW0];exact below_new _ _
 have hk:=heap_alloc_new w (.cells #[.int .i64 9,.string ⟨nm.toArray⟩,.int .i64 0,.slice (some ⟨x.t.b,x.t.o,none⟩) 2 x.t.cap,.slice x.b.a 0 x.b.cap,.slice x.l.a 0 x.l.cap] 28)
 rw [<- hW0,<- hB] at hk
 have HB0:=Lh hb0
 have HW:=Lh (aI hW0 hB)
 have hLB:∀ W,Below W0.heap.size W0 W->Below w.heap.size w W:=fun W hW=>hb0.trans (hW.mono hb0.size)
 obtain ⟨_,_,_,hfl,_⟩:=hx.terms.flat Trm.flatT
 obtain ⟨p0,p1,p2⟩:=hfl.three 0 (by simp [Frm.terms]) rfl
 obtain ⟨q0,q1,q2⟩:=hfl.three 1 (by simp [Frm.terms]) rfl
 have HA0:=Lh (fun (W:World) (_:Below W0.heap.size W0 W)=>rterm_any t W ht)
 have HA1:=Lh (fun (W:World) (_:Below W0.heap.size W0 W)=>rterm_any u W hu)
 generalize txtTerm t=a0 at e hlen HA0
 generalize txtTerm u=a1 at e hlen HA1
 have HC:Hid (∀ W,Below W0.heap.size W0 W->W.cell? ⟨B,1,none⟩=some (.string ⟨nm.toArray⟩)/\W.cell? ⟨B,3,none⟩=some (.slice (some ⟨x.t.b,x.t.o,none⟩) 2 x.t.cap)/\W.cell? ⟨x.t.b,x.t.o,none⟩=some (.int .i64 t.kind)/\W.cell? ⟨x.t.b,x.t.o+1,none⟩=some (.string ⟨t.name.toArray⟩)/\W.cell? ⟨x.t.b,x.t.o+2,none⟩=some (.int .i64 t.n)/\W.cell? ⟨x.t.b,x.t.o+3,none⟩=some (.int .i64 u.kind)/\W.cell? ⟨x.t.b,x.t.o+4,none⟩=some (.string ⟨u.name.toArray⟩)/\W.cell? ⟨x.t.b,x.t.o+5,none⟩=some (.int .i64 u.n)):=Lh (fun W hW=>by
  have k1:=(hW.block B (gS hk).1).trans hk
  have hlow:=hLB W hW
  exact ⟨cH k1 rfl,cH k1 rfl,(hlow.cell (p:=⟨x.t.b,x.t.o,none⟩) hlb).trans (by simpa [Frm.terms,Nat.add_assoc] using p0),(hlow.cell (p:=⟨x.t.b,x.t.o+1,none⟩) hlb).trans (by simpa [Frm.terms,Nat.add_assoc] using p1),(hlow.cell (p:=⟨x.t.b,x.t.o+2,none⟩) hlb).trans (by simpa [Frm.terms,Nat.add_assoc] using p2),(hlow.cell (p:=⟨x.t.b,x.t.o+3,none⟩) hlb).trans (by simpa [Frm.terms,Nat.add_assoc] using q0),(hlow.cell (p:=⟨x.t.b,x.t.o+4,none⟩) hlb).trans (by simpa [Frm.terms,Nat.add_assoc] using q1),(hlow.cell (p:=⟨x.t.b,x.t.o+5,none⟩) hlb).trans (by simpa [Frm.terms,Nat.add_assoc] using q2)⟩)
 obtain ⟨s1,hs1⟩:∃ s1,a0++[32]=s1:=⟨_,rfl⟩
 have ls1:s1.length=a0.length+1:=by rw [<- hs1];simp <;> omega
 obtain ⟨s2,hs2⟩:∃ s2,s1++nm=s2:=⟨_,rfl⟩
 have ls2:s2.length=s1.length+nm.length:=by rw [<- hs2];simp <;> omega
 obtain ⟨s3,hs3⟩:∃ s3,s2++[32]=s3:=⟨_,rfl⟩
 have ls3:s3.length=s2.length+1:=by rw [<- hs3];simp <;> omega
 obtain ⟨s4,hs4⟩:∃ s4,s3++a1=s4:=⟨_,rfl⟩
 have ls4:s4.length=s3.length+a1.length:=by rw [<- hs4];simp <;> omega
 have gs1:¬ 9223372036854775807<a0.length+1:=by omega
 have gs2:¬ 9223372036854775807<s1.length+nm.length:=by omega
 have gs3:¬ 9223372036854775807<s2.length+1:=by omega
 have gs4:¬ 9223372036854775807<s3.length+a1.length:=by omega
 have hfin:txtF (.mk 9 nm 0 [t,u] [] [])=s4:=by rw [e,<- hs4,<- hs3,<- hs2,<- hs1];simp
 simp only [Frm.kind,Frm.name,Frm.n,Frm.terms,Frm.binds,Frm.l,List.length_cons,List.length_nil] at ⊢
 rw [hfin]
 clear hW0 hB hk hb0 hx e hlen hfin hLB ls1 ls2 ls3 ls4 hfl hlb p0 p1 p2 q0 q1 q2
 go_enter Tryz.func46,Tryz.ntmps46
 go_wp2_with fail
 rw [<- HW.out.1,<- HW.out.2]
 refine wp_region_U 16 (S:=fun W=>Below W0.heap.size W0 W) (by kernel_rfl) (Below.refl _ _).drew (fun hHeld=>?_)
 refine take_U (i:=0) (v:=?_) rfl (by kernel_rfl) (by kernel_rfl) (by kernel_rfl) (by kernel_rfl) (fun _ _ _ h=>h) (by rfl) ?_ hHeld ?_
 rotate_left
 ·intro w hSw;obtain ⟨b1,b3,p0,p1,p2,q0,q1,q2⟩:=HC.out w hSw;go_simp;all_goals (with_reducible rfl)
 try simp only [Act.put,ub1,ub2,ub3]
 refine take_U (i:=6) (v:=?_) rfl (by kernel_rfl) (by kernel_rfl) (by kernel_rfl) (by kernel_rfl) (fun _ _ _ h=>h) (by rfl) ?_ hHeld ?_
 rotate_left
 ·intro w hSw;obtain ⟨b1,b3,p0,p1,p2,q0,q1,q2⟩:=HC.out w hSw;go_simp;all_goals (with_reducible rfl)
 try simp only [Act.put,ub1,ub2,ub3]
 refine take_U (i:=10) (v:=?_) rfl (by kernel_rfl) (by kernel_rfl) (by kernel_rfl) (by kernel_rfl) (fun _ _ _ h=>h) (by rfl) ?_ hHeld ?_
 rotate_left
 ·intro w hSw;obtain ⟨b1,b3,p0,p1,p2,q0,q1,q2⟩:=HC.out w hSw;go_simp;all_goals (with_reducible rfl)
 try simp only [Act.put,ub1,ub2,ub3]
 refine take_U (i:=1) (v:=?_) rfl (by kernel_rfl) (by kernel_rfl) (by kernel_rfl) (by kernel_rfl) (fun _ _ _ h=>h) (by rfl) ?_ hHeld ?_
 rotate_left
 ·intro w hSw;obtain ⟨b1,b3,p0,p1,p2,q0,q1,q2⟩:=HC.out w hSw;go_simp;all_goals (with_reducible rfl)
 try simp only [Act.put,ub1,ub2,ub3]
 refine take_U (i:=7) (v:=?_) rfl (by kernel_rfl) (by kernel_rfl) (by kernel_rfl) (by kernel_rfl) (fun _ _ _ h=>h) (by rfl) ?_ hHeld ?_
 rotate_left
 ·intro w hSw;obtain ⟨b1,b3,p0,p1,p2,q0,q1,q2⟩:=HC.out w hSw;go_simp;all_goals (with_reducible rfl)
 try simp only [Act.put,ub1,ub2,ub3]
 refine take_U (i:=11) (v:=?_) rfl (by kernel_rfl) (by kernel_rfl) (by kernel_rfl) (by kernel_rfl) (fun _ _ _ h=>h) (by rfl) ?_ hHeld ?_
 rotate_left
 ·intro w hSw;obtain ⟨b1,b3,p0,p1,p2,q0,q1,q2⟩:=HC.out w hSw;go_simp;all_goals (with_reducible rfl)
 try simp only [Act.put,ub1,ub2,ub3]
 refine take_U (i:=2) (v:=?_) rfl (by kernel_rfl) (by kernel_rfl) (by kernel_rfl) (by kernel_rfl) (fun _ _ _ h=>h) (by rfl) ?_ hHeld ?_
 rotate_left
 ·intro w hSw;obtain ⟨b1,b3,p0,p1,p2,q0,q1,q2⟩:=HC.out w hSw;go_simp;all_goals (with_reducible rfl)
 try simp only [Act.put,ub1,ub2,ub3]
 refine take_U (i:=12) (v:=?_) rfl (by kernel_rfl) (by kernel_rfl) (by kernel_rfl) (by kernel_rfl) (fun _ _ _ h=>h) (by rfl) ?_ hHeld ?_
 rotate_left
 ·intro w hSw;obtain ⟨b1,b3,p0,p1,p2,q0,q1,q2⟩:=HC.out w hSw;go_simp;all_goals (with_reducible rfl)
 try simp only [Act.put,ub1,ub2,ub3]
 refine take_U (i:=3) (v:=?_) rfl (by kernel_rfl) (by kernel_rfl) (by kernel_rfl) (by kernel_rfl) (fun _ _ _ h=>h) (by rfl) ?_ hHeld ?_
 rotate_left
 ·intro w hSw;obtain ⟨b1,b3,p0,p1,p2,q0,q1,q2⟩:=HC.out w hSw;go_simp;all_goals (with_reducible rfl)
 try simp only [Act.put,ub1,ub2,ub3]
 refine take_U (i:=13) (v:=?_) rfl (by kernel_rfl) (by kernel_rfl) (by kernel_rfl) (by kernel_rfl) (fun _ _ _ h=>h) (by rfl) ?_ hHeld ?_
 rotate_left
 ·intro w hSw;obtain ⟨b1,b3,p0,p1,p2,q0,q1,q2⟩:=HC.out w hSw;go_simp;all_goals (with_reducible rfl)
 try simp only [Act.put,ub1,ub2,ub3]
 refine ready_U (rs:=[4]) (by kernel_rfl) (by simp) ?_
 refine cons_U rfl (fun K hK=>?_) nil_U
 go_simp
 refine (HA0.out _ hHeld).mono ?_
 rintro e w2 ⟨rfl,hb1⟩
 have HB1:=Lh hb1
 clear hb1
 go_simp
 refine hK.out _ _ ?_ (fun hHeld2=>?_)
 ·exact Below.trans hHeld (Below.mono HB1.out (Below.size hHeld))
 clear hK K hHeld
 have hHeld:=hHeld2
 clear hHeld2
 try simp only [Act.put,ub1,ub2,ub3]
 refine take_U (i:=5) (v:=?_) rfl (by kernel_rfl) (by kernel_rfl) (by kernel_rfl) (by kernel_rfl) (fun _ _ _ h=>h) (by rfl) ?_ hHeld ?_
 rotate_left
 ·intro w hSw;obtain ⟨b1,b3,p0,p1,p2,q0,q1,q2⟩:=HC.out w hSw;go_simp;all_goals (with_reducible rfl)
 try simp only [Act.put,ub1,ub2,ub3]
 refine take_U (i:=8) (v:=?_) rfl (by kernel_rfl) (by kernel_rfl) (by kernel_rfl) (by kernel_rfl) (fun _ _ _ h=>h) (by rfl) ?_ hHeld ?_
 rotate_left
 ·intro w hSw;obtain ⟨b1,b3,p0,p1,p2,q0,q1,q2⟩:=HC.out w hSw;go_simp;all_goals (with_reducible rfl)
 try simp only [Act.put,ub1,ub2,ub3]
 refine take_U (i:=9) (v:=?_) rfl (by kernel_rfl) (by kernel_rfl) (by kernel_rfl) (by kernel_rfl) (fun _ _ _ h=>h) (by rfl) ?_ hHeld ?_
 rotate_left
 ·intro w hSw;obtain ⟨b1,b3,p0,p1,p2,q0,q1,q2⟩:=HC.out w hSw;go_simp;all_goals (with_reducible rfl)
 try simp only [Act.put,ub1,ub2,ub3]
 refine ready_U (rs:=[14]) (by kernel_rfl) (by simp) ?_
 refine cons_U rfl (fun K hK=>?_) nil_U
 go_simp
 refine (HA1.out _ hHeld).mono ?_
 rintro e w3 ⟨rfl,hb2⟩
 have HB2:=Lh hb2
 clear hb2
 go_simp
 refine hK.out _ _ ?_ (fun hHeld2=>?_)
 ·exact Below.trans hHeld (Below.mono HB2.out (Below.size hHeld))
 clear hK K hHeld
 have hHeld:=hHeld2
 clear hHeld2
 try simp only [Act.put,ub1,ub2,ub3]
 refine take_U (i:=15) (v:=?_) rfl (by kernel_rfl) (by kernel_rfl) (by kernel_rfl) (by kernel_rfl) (fun _ _ _ h=>h) (by rfl) ?_ hHeld ?_
 rotate_left
 ·intro w hSw;obtain ⟨b1,b3,p0,p1,p2,q0,q1,q2⟩:=HC.out w hSw;go_simp;all_goals (with_reducible rfl)
 try simp only [Act.put,ub1,ub2,ub3]
 refine ready_U (rs:=[16]) (by kernel_rfl) (by simp) ?_
 refine cons_V rfl (by kernel_rfl) (fun K hK=>?_) nil_U
 go_simp
 refine hK.out _ _ ?_
 clear hK K
 try simp only [Act.put,ub1,ub2,ub3]
 refine done_U (by kernel_rfl) ?_ _
 go_wp2_with fail
 go_ret
 exact ⟨rfl,HB0.out.trans (Below.mono hHeld HB0.out.size)⟩
theorem rtext_14 (n:Int) (bl:List Bnd) (g:Frm) (hG:TextOk g) (hbl:bl.length<=6) (hbo:bl.all bndOk=true):TextOk (.mk 14 [] n [] bl [g]):=by
 intro x w hx hlen
 have e:txtF (.mk 14 [] n [] bl [g])=[97,108,108,32]++(txtBinds bl++([32,40]++(txtF g++[41]))):=by rw [txtF_nil];simp [txtAt,tightK,show kwOf kwAll 14=[97,108,108] from rfl]
 rw [e] at hlen
 simp only [List.length_append,List.length_cons,List.length_nil] at hlen
 obtain ⟨hla,hlb⟩:x.l.a=some ⟨x.l.b,x.l.o,none⟩/\x.l.b<w.heap.size:=by have:=hx.l.at_ (by simp [Frm.l]);exact this
 rw [hla]
 clear hla
 obtain ⟨W0,hW0⟩:∃ W0,W0=w.alloc (.cells #[.int .i64 14,.string ⟨#[]⟩,.int .i64 n,.slice x.t.a 0 x.t.cap,.slice x.b.a bl.length x.b.cap,.slice (some ⟨x.l.b,x.l.o,none⟩) 1 x.l.cap] 28):=⟨_,rfl⟩
 obtain ⟨B,hB⟩:∃ B,B=w.heap.size:=⟨_,rfl⟩
 have hb0:Below w.heap.size w W0:=by rw [hW0];exact below_new _ _
 have hk:=heap_alloc_new w (.cells #[.int .i64 14,.string ⟨#[]⟩,.int .i64 n,.slice x.t.a 0 x.t.cap,.slice x.b.a bl.length x.b.cap,.slice (some ⟨x.l.b,x.l.o,none⟩) 1 x.l.cap] 28)
 rw [<- hW0,<- hB] at hk
 have HB0:=Lh hb0
 have HW:=Lh (aI hW0 hB)
 have hLB:∀ W,Below W0.heap.size W0 W->Below w.heap.size w W:=fun W hW=>hb0.trans (hW.mono hb0.size)
 obtain ⟨y0,hy0,hc0⟩:∃ y,FrmIn w (·<w.heap.size) g y/\CellsAt w x.l.b (x.l.o+0) (y.cells g):=hx.l.frm 0 (by simp [Frm.l])
 obtain ⟨p0,p1,p2,p3,p4,p5⟩:=CellsAt.six hc0
 have HA:Hid (∀ W,Below W0.heap.size W0 W->Calls Tryz.prog 46 #[.agg #[.int .i64 g.kind,.string ⟨g.name.toArray⟩,.int .i64 g.n,.slice y0.t.a g.terms.length y0.t.cap,.slice y0.b.a g.binds.length y0.b.cap,.slice y0.l.a g.l.length y0.l.cap]] W fun e w'=>e=.returned (.string ⟨(txtF g).toArray⟩)/\Below W.heap.size W w'):=Lh (fun W hW=>hG y0 W (hy0.later (hLB W hW) (hLB W hW).size) (by omega))
 have HBN:=Lh (fun (W:World) (hW:Below W0.heap.size W0 W)=>rbinds7_any bl x.b W ((SlIn.agree hx.binds (agree_of_below (hLB W hW))).mono (fun k hk=>Nat.lt_of_lt_of_le hk (hLB W hW).size)) hbl hbo)
 generalize txtF g=a0 at e hlen HA
 generalize txtBinds bl=b0 at e hlen HBN
 have HC:Hid (∀ W,Below W0.heap.size W0 W->W.cell? ⟨B,4,none⟩=some (.slice x.b.a bl.length x.b.cap)/\W.cell? ⟨B,5,none⟩=some (.slice (some ⟨x.l.b,x.l.o,none⟩) 1 x.l.cap)/\W.cell? ⟨x.l.b,x.l.o,none⟩=some (.int .i64 g.kind)/\W.cell? ⟨x.l.b,x.l.o+1,none⟩=some (.string ⟨g.name.toArray⟩)/\W.cell? ⟨x.l.b,x.l.o+2,none⟩=some (.int .i64 g.n)/\W.cell? ⟨x.l.b,x.l.o+3,none⟩=some (.slice y0.t.a g.terms.length y0.t.cap)/\W.cell? ⟨x.l.b,x.l.o+4,none⟩=some (.slice y0.b.a g.binds.length y0.b.cap)/\W.cell? ⟨x.l.b,x.l.o+5,none⟩=some (.slice y0.l.a g.l.length y0.l.cap)):=Lh (fun W hW=>by
  have k1:=(hW.block B (gS hk).1).trans hk
  have hlow:=hLB W hW
  exact ⟨cH k1 rfl,cH k1 rfl,(hlow.cell (p:=⟨x.l.b,x.l.o,none⟩) hlb).trans (by simpa using p0),(hlow.cell (p:=⟨x.l.b,x.l.o+1,none⟩) hlb).trans (by simpa using p1),(hlow.cell (p:=⟨x.l.b,x.l.o+2,none⟩) hlb).trans (by simpa using p2),(hlow.cell (p:=⟨x.l.b,x.l.o+3,none⟩) hlb).trans (by simpa using p3),(hlow.cell (p:=⟨x.l.b,x.l.o+4,none⟩) hlb).trans (by simpa using p4),(hlow.cell (p:=⟨x.l.b,x.l.o+5,none⟩) hlb).trans (by simpa using p5)⟩)
 obtain ⟨s1,hs1⟩:∃ s1,97 :: 108 :: 108 :: 32 :: b0=s1:=⟨_,rfl⟩
 have ls1:s1.length=4+b0.length:=by rw [<- hs1];simp <;> omega
 obtain ⟨s2,hs2⟩:∃ s2,s1++[32,40]=s2:=⟨_,rfl⟩
 have ls2:s2.length=s1.length+2:=by rw [<- hs2];simp <;> omega
 obtain ⟨s3,hs3⟩:∃ s3,s2++a0=s3:=⟨_,rfl⟩
 have ls3:s3.length=s2.length+a0.length:=by rw [<- hs3];simp <;> omega
 obtain ⟨s4,hs4⟩:∃ s4,s3++[41]=s4:=⟨_,rfl⟩
 have ls4:s4.length=s3.length+1:=by rw [<- hs4];simp <;> omega
 have gs1:¬ 9223372036854775807<4+b0.length:=by omega
 have gs2:¬ 9223372036854775807<s1.length+2:=by omega
 have gs3:¬ 9223372036854775807<s2.length+a0.length:=by omega
 have gs4:¬ 9223372036854775807<s3.length+1:=by omega
 have hfin:txtF (.mk 14 [] n [] bl [g])=s4:=by rw [e,<- hs4,<- hs3,<- hs2,<- hs1];simp
 simp only [Frm.kind,Frm.name,Frm.n,Frm.terms,Frm.binds,Frm.l,List.length_cons,List.length_nil] at ⊢
 rw [hfin]
 clear hW0 hB hk hb0 hx e hlen hfin hLB ls1 ls2 ls3 ls4 hG hc0 hy0 hlb hbl hbo p0 p1 p2 p3 p4 p5
 go_enter Tryz.func46,Tryz.ntmps46
 go_wp2_with fail
 rw [<- HW.out.1,<- HW.out.2]
 refine wp_region_U 12 (S:=fun W=>Below W0.heap.size W0 W) (by kernel_rfl) (Below.refl _ _).drew (fun hHeld=>?_)
 refine take_U (i:=0) (v:=?_) rfl (by kernel_rfl) (by kernel_rfl) (by kernel_rfl) (by kernel_rfl) (fun _ _ _ h=>h) (by rfl) ?_ hHeld ?_
 rotate_left
 ·intro w hSw;obtain ⟨b4,b5,p0,p1,p2,p3,p4,p5⟩:=HC.out w hSw;go_simp;all_goals (with_reducible rfl)
 try simp only [Act.put,ub1,ub2,ub3]
 refine take_U (i:=5) (v:=?_) rfl (by kernel_rfl) (by kernel_rfl) (by kernel_rfl) (by kernel_rfl) (fun _ _ _ h=>h) (by rfl) ?_ hHeld ?_
 rotate_left
 ·intro w hSw;obtain ⟨b4,b5,p0,p1,p2,p3,p4,p5⟩:=HC.out w hSw;go_simp;all_goals (with_reducible rfl)
 try simp only [Act.put,ub1,ub2,ub3]
 refine take_U (i:=1) (v:=?_) rfl (by kernel_rfl) (by kernel_rfl) (by kernel_rfl) (by kernel_rfl) (fun _ _ _ h=>h) (by rfl) ?_ hHeld ?_
 rotate_left
 ·intro w hSw;obtain ⟨b4,b5,p0,p1,p2,p3,p4,p5⟩:=HC.out w hSw;go_simp;all_goals (with_reducible rfl)
 try simp only [Act.put,ub1,ub2,ub3]
 refine take_U (i:=6) (v:=?_) rfl (by kernel_rfl) (by kernel_rfl) (by kernel_rfl) (by kernel_rfl) (fun _ _ _ h=>h) (by rfl) ?_ hHeld ?_
 rotate_left
 ·intro w hSw;obtain ⟨b4,b5,p0,p1,p2,p3,p4,p5⟩:=HC.out w hSw;go_simp;all_goals (with_reducible rfl)
 try simp only [Act.put,ub1,ub2,ub3]
 refine take_U (i:=7) (v:=?_) rfl (by kernel_rfl) (by kernel_rfl) (by kernel_rfl) (by kernel_rfl) (fun _ _ _ h=>h) (by rfl) ?_ hHeld ?_
 rotate_left
 ·intro w hSw;obtain ⟨b4,b5,p0,p1,p2,p3,p4,p5⟩:=HC.out w hSw;go_simp;all_goals (with_reducible rfl)
 try simp only [Act.put,ub1,ub2,ub3]
 refine take_U (i:=8) (v:=?_) rfl (by kernel_rfl) (by kernel_rfl) (by kernel_rfl) (by kernel_rfl) (fun _ _ _ h=>h) (by rfl) ?_ hHeld ?_
 rotate_left
 ·intro w hSw;obtain ⟨b4,b5,p0,p1,p2,p3,p4,p5⟩:=HC.out w hSw;go_simp;all_goals (with_reducible rfl)
 try simp only [Act.put,ub1,ub2,ub3]
 refine ready_U (rs:=[2]) (by kernel_rfl) (by simp) ?_
 refine cons_U rfl (fun K hK=>?_) nil_U
 go_simp
 refine (HBN.out _ hHeld).mono ?_
 rintro e w2 ⟨rfl,hb1⟩
 have HB1:=Lh hb1
 clear hb1
 go_simp
 refine hK.out _ _ ?_ (fun hHeld2=>?_)
 ·exact Below.trans hHeld (Below.mono HB1.out (Below.size hHeld))
 clear hK K hHeld
 have hHeld:=hHeld2
 clear hHeld2
 try simp only [Act.put,ub1,ub2,ub3]
 refine take_U (i:=3) (v:=?_) rfl (by kernel_rfl) (by kernel_rfl) (by kernel_rfl) (by kernel_rfl) (fun _ _ _ h=>h) (by rfl) ?_ hHeld ?_
 rotate_left
 ·intro w hSw;obtain ⟨b4,b5,p0,p1,p2,p3,p4,p5⟩:=HC.out w hSw;go_simp;all_goals (with_reducible rfl)
 try simp only [Act.put,ub1,ub2,ub3]
 refine take_U (i:=4) (v:=?_) rfl (by kernel_rfl) (by kernel_rfl) (by kernel_rfl) (by kernel_rfl) (fun _ _ _ h=>h) (by rfl) ?_ hHeld ?_
 rotate_left
 ·intro w hSw;obtain ⟨b4,b5,p0,p1,p2,p3,p4,p5⟩:=HC.out w hSw;go_simp;all_goals (with_reducible rfl)
 try simp only [Act.put,ub1,ub2,ub3]
 refine ready_U (rs:=[9]) (by kernel_rfl) (by simp) ?_
 refine cons_U rfl (fun K hK=>?_) nil_U
 go_simp
 refine (HA.out _ hHeld).mono ?_
 rintro e w3 ⟨rfl,hb2⟩
 have HB2:=Lh hb2
 clear hb2
 go_simp
 refine hK.out _ _ ?_ (fun hHeld2=>?_)
 ·exact Below.trans hHeld (Below.mono HB2.out (Below.size hHeld))
 clear hK K hHeld
 have hHeld:=hHeld2
 clear hHeld2
 try simp only [Act.put,ub1,ub2,ub3]
 refine take_U (i:=10) (v:=?_) rfl (by kernel_rfl) (by kernel_rfl) (by kernel_rfl) (by kernel_rfl) (fun _ _ _ h=>h) (by rfl) ?_ hHeld ?_
 rotate_left
 ·intro w hSw;obtain ⟨b4,b5,p0,p1,p2,p3,p4,p5⟩:=HC.out w hSw;go_simp;all_goals (with_reducible rfl)
 try simp only [Act.put,ub1,ub2,ub3]
 refine take_U (i:=11) (v:=?_) rfl (by kernel_rfl) (by kernel_rfl) (by kernel_rfl) (by kernel_rfl) (fun _ _ _ h=>h) (by rfl) ?_ hHeld ?_
 rotate_left
 ·intro w hSw;obtain ⟨b4,b5,p0,p1,p2,p3,p4,p5⟩:=HC.out w hSw;go_simp;all_goals (with_reducible rfl)
 try simp only [Act.put,ub1,ub2,ub3]
 refine ready_U (rs:=[12]) (by kernel_rfl) (by simp) ?_
 refine cons_V rfl (by kernel_rfl) (fun K hK=>?_) nil_U
 go_simp
 refine hK.out _ _ ?_
 clear hK K
 try simp only [Act.put,ub1,ub2,ub3]
 refine done_U (by kernel_rfl) ?_ _
 go_wp2_with fail
 go_ret
 exact ⟨rfl,HB0.out.trans (Below.mono hHeld HB0.out.size)⟩
theorem rtext_15 (n:Int) (bl:List Bnd) (g:Frm) (hG:TextOk g) (hbl:bl.length<=6) (hbo:bl.all bndOk=true):TextOk (.mk 15 [] n [] bl [g]):=by
 intro x w hx hlen
 have e:txtF (.mk 15 [] n [] bl [g])=[115,111,109,101,32]++(txtBinds bl++([32,40]++(txtF g++[41]))):=by rw [txtF_nil];simp [txtAt,tightK,show kwOf kwAll 15=[115,111,109,101] from rfl]
 rw [e] at hlen
 simp only [List.length_append,List.length_cons,List.length_nil] at hlen
 obtain ⟨hla,hlb⟩:x.l.a=some ⟨x.l.b,x.l.o,none⟩/\x.l.b<w.heap.size:=by have:=hx.l.at_ (by simp [Frm.l]);exact this
 rw [hla]
 clear hla
 obtain ⟨W0,hW0⟩:∃ W0,W0=w.alloc (.cells #[.int .i64 15,.string ⟨#[]⟩,.int .i64 n,.slice x.t.a 0 x.t.cap,.slice x.b.a bl.length x.b.cap,.slice (some ⟨x.l.b,x.l.o,none⟩) 1 x.l.cap] 28):=⟨_,rfl⟩
 obtain ⟨B,hB⟩:∃ B,B=w.heap.size:=⟨_,rfl⟩
 have hb0:Below w.heap.size w W0:=by rw [hW0];exact below_new _ _
 have hk:=heap_alloc_new w (.cells #[.int .i64 15,.string ⟨#[]⟩,.int .i64 n,.slice x.t.a 0 x.t.cap,.slice x.b.a bl.length x.b.cap,.slice (some ⟨x.l.b,x.l.o,none⟩) 1 x.l.cap] 28)
 rw [<- hW0,<- hB] at hk
 have HB0:=Lh hb0
 have HW:=Lh (aI hW0 hB)
 have hLB:∀ W,Below W0.heap.size W0 W->Below w.heap.size w W:=fun W hW=>hb0.trans (hW.mono hb0.size)
 obtain ⟨y0,hy0,hc0⟩:∃ y,FrmIn w (·<w.heap.size) g y/\CellsAt w x.l.b (x.l.o+0) (y.cells g):=hx.l.frm 0 (by simp [Frm.l])
 obtain ⟨p0,p1,p2,p3,p4,p5⟩:=CellsAt.six hc0
 have HA:Hid (∀ W,Below W0.heap.size W0 W->Calls Tryz.prog 46 #[.agg #[.int .i64 g.kind,.string ⟨g.name.toArray⟩,.int .i64 g.n,.slice y0.t.a g.terms.length y0.t.cap,.slice y0.b.a g.binds.length y0.b.cap,.slice y0.l.a g.l.length y0.l.cap]] W fun e w'=>e=.returned (.string ⟨(txtF g).toArray⟩)/\Below W.heap.size W w'):=Lh (fun W hW=>hG y0 W (hy0.later (hLB W hW) (hLB W hW).size) (by omega))
 have HBN:=Lh (fun (W:World) (hW:Below W0.heap.size W0 W)=>rbinds7_any bl x.b W ((SlIn.agree hx.binds (agree_of_below (hLB W hW))).mono (fun k hk=>Nat.lt_of_lt_of_le hk (hLB W hW).size)) hbl hbo)
 generalize txtF g=a0 at e hlen HA
 generalize txtBinds bl=b0 at e hlen HBN
 have HC:Hid (∀ W,Below W0.heap.size W0 W->W.cell? ⟨B,4,none⟩=some (.slice x.b.a bl.length x.b.cap)/\W.cell? ⟨B,5,none⟩=some (.slice (some ⟨x.l.b,x.l.o,none⟩) 1 x.l.cap)/\W.cell? ⟨x.l.b,x.l.o,none⟩=some (.int .i64 g.kind)/\W.cell? ⟨x.l.b,x.l.o+1,none⟩=some (.string ⟨g.name.toArray⟩)/\W.cell? ⟨x.l.b,x.l.o+2,none⟩=some (.int .i64 g.n)/\W.cell? ⟨x.l.b,x.l.o+3,none⟩=some (.slice y0.t.a g.terms.length y0.t.cap)/\W.cell? ⟨x.l.b,x.l.o+4,none⟩=some (.slice y0.b.a g.binds.length y0.b.cap)/\W.cell? ⟨x.l.b,x.l.o+5,none⟩=some (.slice y0.l.a g.l.length y0.l.cap)):=Lh (fun W hW=>by
  have k1:=(hW.block B (gS hk).1).trans hk
  have hlow:=hLB W hW
  exact ⟨cH k1 rfl,cH k1 rfl,(hlow.cell (p:=⟨x.l.b,x.l.o,none⟩) hlb).trans (by simpa using p0),(hlow.cell (p:=⟨x.l.b,x.l.o+1,none⟩) hlb).trans (by simpa using p1),(hlow.cell (p:=⟨x.l.b,x.l.o+2,none⟩) hlb).trans (by simpa using p2),(hlow.cell (p:=⟨x.l.b,x.l.o+3,none⟩) hlb).trans (by simpa using p3),(hlow.cell (p:=⟨x.l.b,x.l.o+4,none⟩) hlb).trans (by simpa using p4),(hlow.cell (p:=⟨x.l.b,x.l.o+5,none⟩) hlb).trans (by simpa using p5)⟩)
 obtain ⟨s1,hs1⟩:∃ s1,115 :: 111 :: 109 :: 101 :: 32 :: b0=s1:=⟨_,rfl⟩
 have ls1:s1.length=5+b0.length:=by rw [<- hs1];simp <;> omega
 obtain ⟨s2,hs2⟩:∃ s2,s1++[32,40]=s2:=⟨_,rfl⟩
 have ls2:s2.length=s1.length+2:=by rw [<- hs2];simp <;> omega
 obtain ⟨s3,hs3⟩:∃ s3,s2++a0=s3:=⟨_,rfl⟩
 have ls3:s3.length=s2.length+a0.length:=by rw [<- hs3];simp <;> omega
 obtain ⟨s4,hs4⟩:∃ s4,s3++[41]=s4:=⟨_,rfl⟩
 have ls4:s4.length=s3.length+1:=by rw [<- hs4];simp <;> omega
 have gs1:¬ 9223372036854775807<5+b0.length:=by omega
 have gs2:¬ 9223372036854775807<s1.length+2:=by omega
 have gs3:¬ 9223372036854775807<s2.length+a0.length:=by omega
 have gs4:¬ 9223372036854775807<s3.length+1:=by omega
 have hfin:txtF (.mk 15 [] n [] bl [g])=s4:=by rw [e,<- hs4,<- hs3,<- hs2,<- hs1];simp
 simp only [Frm.kind,Frm.name,Frm.n,Frm.terms,Frm.binds,Frm.l,List.length_cons,List.length_nil] at ⊢
 rw [hfin]
 clear hW0 hB hk hb0 hx e hlen hfin hLB ls1 ls2 ls3 ls4 hG hc0 hy0 hlb hbl hbo p0 p1 p2 p3 p4 p5
 go_enter Tryz.func46,Tryz.ntmps46
 go_wp2_with fail
 rw [<- HW.out.1,<- HW.out.2]
 refine wp_region_U 12 (S:=fun W=>Below W0.heap.size W0 W) (by kernel_rfl) (Below.refl _ _).drew (fun hHeld=>?_)
 refine take_U (i:=0) (v:=?_) rfl (by kernel_rfl) (by kernel_rfl) (by kernel_rfl) (by kernel_rfl) (fun _ _ _ h=>h) (by rfl) ?_ hHeld ?_
 rotate_left
 ·intro w hSw;obtain ⟨b4,b5,p0,p1,p2,p3,p4,p5⟩:=HC.out w hSw;go_simp;all_goals (with_reducible rfl)
 try simp only [Act.put,ub1,ub2,ub3]
 refine take_U (i:=5) (v:=?_) rfl (by kernel_rfl) (by kernel_rfl) (by kernel_rfl) (by kernel_rfl) (fun _ _ _ h=>h) (by rfl) ?_ hHeld ?_
 rotate_left
 ·intro w hSw;obtain ⟨b4,b5,p0,p1,p2,p3,p4,p5⟩:=HC.out w hSw;go_simp;all_goals (with_reducible rfl)
 try simp only [Act.put,ub1,ub2,ub3]
 refine take_U (i:=1) (v:=?_) rfl (by kernel_rfl) (by kernel_rfl) (by kernel_rfl) (by kernel_rfl) (fun _ _ _ h=>h) (by rfl) ?_ hHeld ?_
 rotate_left
 ·intro w hSw;obtain ⟨b4,b5,p0,p1,p2,p3,p4,p5⟩:=HC.out w hSw;go_simp;all_goals (with_reducible rfl)
 try simp only [Act.put,ub1,ub2,ub3]
 refine take_U (i:=6) (v:=?_) rfl (by kernel_rfl) (by kernel_rfl) (by kernel_rfl) (by kernel_rfl) (fun _ _ _ h=>h) (by rfl) ?_ hHeld ?_
 rotate_left
 ·intro w hSw;obtain ⟨b4,b5,p0,p1,p2,p3,p4,p5⟩:=HC.out w hSw;go_simp;all_goals (with_reducible rfl)
 try simp only [Act.put,ub1,ub2,ub3]
 refine take_U (i:=7) (v:=?_) rfl (by kernel_rfl) (by kernel_rfl) (by kernel_rfl) (by kernel_rfl) (fun _ _ _ h=>h) (by rfl) ?_ hHeld ?_
 rotate_left
 ·intro w hSw;obtain ⟨b4,b5,p0,p1,p2,p3,p4,p5⟩:=HC.out w hSw;go_simp;all_goals (with_reducible rfl)
 try simp only [Act.put,ub1,ub2,ub3]
 refine take_U (i:=8) (v:=?_) rfl (by kernel_rfl) (by kernel_rfl) (by kernel_rfl) (by kernel_rfl) (fun _ _ _ h=>h) (by rfl) ?_ hHeld ?_
 rotate_left
 ·intro w hSw;obtain ⟨b4,b5,p0,p1,p2,p3,p4,p5⟩:=HC.out w hSw;go_simp;all_goals (with_reducible rfl)
 try simp only [Act.put,ub1,ub2,ub3]
 refine ready_U (rs:=[2]) (by kernel_rfl) (by simp) ?_
 refine cons_U rfl (fun K hK=>?_) nil_U
 go_simp
 refine (HBN.out _ hHeld).mono ?_
 rintro e w2 ⟨rfl,hb1⟩
 have HB1:=Lh hb1
 clear hb1
 go_simp
 refine hK.out _ _ ?_ (fun hHeld2=>?_)
 ·exact Below.trans hHeld (Below.mono HB1.out (Below.size hHeld))
 clear hK K hHeld
 have hHeld:=hHeld2
 clear hHeld2
 try simp only [Act.put,ub1,ub2,ub3]
 refine take_U (i:=3) (v:=?_) rfl (by kernel_rfl) (by kernel_rfl) (by kernel_rfl) (by kernel_rfl) (fun _ _ _ h=>h) (by rfl) ?_ hHeld ?_
 rotate_left
 ·intro w hSw;obtain ⟨b4,b5,p0,p1,p2,p3,p4,p5⟩:=HC.out w hSw;go_simp;all_goals (with_reducible rfl)
 try simp only [Act.put,ub1,ub2,ub3]
 refine take_U (i:=4) (v:=?_) rfl (by kernel_rfl) (by kernel_rfl) (by kernel_rfl) (by kernel_rfl) (fun _ _ _ h=>h) (by rfl) ?_ hHeld ?_
 rotate_left
 ·intro w hSw;obtain ⟨b4,b5,p0,p1,p2,p3,p4,p5⟩:=HC.out w hSw;go_simp;all_goals (with_reducible rfl)
 try simp only [Act.put,ub1,ub2,ub3]
 refine ready_U (rs:=[9]) (by kernel_rfl) (by simp) ?_
 refine cons_U rfl (fun K hK=>?_) nil_U
 go_simp
 refine (HA.out _ hHeld).mono ?_
 rintro e w3 ⟨rfl,hb2⟩
 have HB2:=Lh hb2
 clear hb2
 go_simp
 refine hK.out _ _ ?_ (fun hHeld2=>?_)
 ·exact Below.trans hHeld (Below.mono HB2.out (Below.size hHeld))
 clear hK K hHeld
 have hHeld:=hHeld2
 clear hHeld2
 try simp only [Act.put,ub1,ub2,ub3]
 refine take_U (i:=10) (v:=?_) rfl (by kernel_rfl) (by kernel_rfl) (by kernel_rfl) (by kernel_rfl) (fun _ _ _ h=>h) (by rfl) ?_ hHeld ?_
 rotate_left
 ·intro w hSw;obtain ⟨b4,b5,p0,p1,p2,p3,p4,p5⟩:=HC.out w hSw;go_simp;all_goals (with_reducible rfl)
 try simp only [Act.put,ub1,ub2,ub3]
 refine take_U (i:=11) (v:=?_) rfl (by kernel_rfl) (by kernel_rfl) (by kernel_rfl) (by kernel_rfl) (fun _ _ _ h=>h) (by rfl) ?_ hHeld ?_
 rotate_left
 ·intro w hSw;obtain ⟨b4,b5,p0,p1,p2,p3,p4,p5⟩:=HC.out w hSw;go_simp;all_goals (with_reducible rfl)
 try simp only [Act.put,ub1,ub2,ub3]
 refine ready_U (rs:=[12]) (by kernel_rfl) (by simp) ?_
 refine cons_V rfl (by kernel_rfl) (fun K hK=>?_) nil_U
 go_simp
 refine hK.out _ _ ?_
 clear hK K
 try simp only [Act.put,ub1,ub2,ub3]
 refine done_U (by kernel_rfl) ?_ _
 go_wp2_with fail
 go_ret
 exact ⟨rfl,HB0.out.trans (Below.mono hHeld HB0.out.size)⟩
theorem rtext_16 (m:Nat) (hm:m<=1099511627776) (bl:List Bnd) (g:Frm) (hG:TextOk g) (hbl:bl.length<=6) (hbo:bl.all bndOk=true):TextOk (.mk 16 [] (m:Int) [] bl [g]):=by
 intro x w hx hlen
 have e:txtF (.mk 16 [] (m:Int) [] bl [g])=[108,101,97,115,116,32]++(Lib.decDigits m++([32]++(txtBinds bl++([32,40]++(txtF g++[41]))))):=by rw [txtF_nil];simp [txtAt,tightK,show kwOf kwAll 16=[108,101,97,115,116] from rfl];rfl
 rw [e] at hlen
 simp only [List.length_append,List.length_cons,List.length_nil] at hlen
 obtain ⟨hla,hlb⟩:x.l.a=some ⟨x.l.b,x.l.o,none⟩/\x.l.b<w.heap.size:=by have:=hx.l.at_ (by simp [Frm.l]);exact this
 rw [hla]
 clear hla
 obtain ⟨W0,hW0⟩:∃ W0,W0=w.alloc (.cells #[.int .i64 16,.string ⟨#[]⟩,.int .i64 (m:Int),.slice x.t.a 0 x.t.cap,.slice x.b.a bl.length x.b.cap,.slice (some ⟨x.l.b,x.l.o,none⟩) 1 x.l.cap] 28):=⟨_,rfl⟩
 obtain ⟨B,hB⟩:∃ B,B=w.heap.size:=⟨_,rfl⟩
 have hb0:Below w.heap.size w W0:=by rw [hW0];exact below_new _ _
 have hk:=heap_alloc_new w (.cells #[.int .i64 16,.string ⟨#[]⟩,.int .i64 (m:Int),.slice x.t.a 0 x.t.cap,.slice x.b.a bl.length x.b.cap,.slice (some ⟨x.l.b,x.l.o,none⟩) 1 x.l.cap] 28)
 rw [<- hW0,<- hB] at hk
 have HB0:=Lh hb0
 have HW:=Lh (aI hW0 hB)
 have hLB:∀ W,Below W0.heap.size W0 W->Below w.heap.size w W:=fun W hW=>hb0.trans (hW.mono hb0.size)
 obtain ⟨y0,hy0,hc0⟩:∃ y,FrmIn w (·<w.heap.size) g y/\CellsAt w x.l.b (x.l.o+0) (y.cells g):=hx.l.frm 0 (by simp [Frm.l])
 obtain ⟨p0,p1,p2,p3,p4,p5⟩:=CellsAt.six hc0
 have HA:Hid (∀ W,Below W0.heap.size W0 W->Calls Tryz.prog 46 #[.agg #[.int .i64 g.kind,.string ⟨g.name.toArray⟩,.int .i64 g.n,.slice y0.t.a g.terms.length y0.t.cap,.slice y0.b.a g.binds.length y0.b.cap,.slice y0.l.a g.l.length y0.l.cap]] W fun e w'=>e=.returned (.string ⟨(txtF g).toArray⟩)/\Below W.heap.size W w'):=Lh (fun W hW=>hG y0 W (hy0.later (hLB W hW) (hLB W hW).size) (by omega))
 have HBN:=Lh (fun (W:World) (hW:Below W0.heap.size W0 W)=>rbinds7_any bl x.b W ((SlIn.agree hx.binds (agree_of_below (hLB W hW))).mono (fun k hk=>Nat.lt_of_lt_of_le hk (hLB W hW).size)) hbl hbo)
 have HDG:=Lh (fun (W:World) (_:Below W0.heap.size W0 W)=>rdigits_any m m W (Nat.le_refl _) (by omega))
 generalize Lib.decDigits m=d0 at e hlen HDG
 generalize txtF g=a0 at e hlen HA
 generalize txtBinds bl=b0 at e hlen HBN
 have HC:Hid (∀ W,Below W0.heap.size W0 W->W.cell? ⟨B,2,none⟩=some (.int .i64 (m:Int))/\W.cell? ⟨B,4,none⟩=some (.slice x.b.a bl.length x.b.cap)/\W.cell? ⟨B,5,none⟩=some (.slice (some ⟨x.l.b,x.l.o,none⟩) 1 x.l.cap)/\W.cell? ⟨x.l.b,x.l.o,none⟩=some (.int .i64 g.kind)/\W.cell? ⟨x.l.b,x.l.o+1,none⟩=some (.string ⟨g.name.toArray⟩)/\W.cell? ⟨x.l.b,x.l.o+2,none⟩=some (.int .i64 g.n)/\W.cell? ⟨x.l.b,x.l.o+3,none⟩=some (.slice y0.t.a g.terms.length y0.t.cap)/\W.cell? ⟨x.l.b,x.l.o+4,none⟩=some (.slice y0.b.a g.binds.length y0.b.cap)/\W.cell? ⟨x.l.b,x.l.o+5,none⟩=some (.slice y0.l.a g.l.length y0.l.cap)):=Lh (fun W hW=>by
  have k1:=(hW.block B (gS hk).1).trans hk
  have hlow:=hLB W hW
  exact ⟨cH k1 rfl,cH k1 rfl,cH k1 rfl,(hlow.cell (p:=⟨x.l.b,x.l.o,none⟩) hlb).trans (by simpa using p0),(hlow.cell (p:=⟨x.l.b,x.l.o+1,none⟩) hlb).trans (by simpa using p1),(hlow.cell (p:=⟨x.l.b,x.l.o+2,none⟩) hlb).trans (by simpa using p2),(hlow.cell (p:=⟨x.l.b,x.l.o+3,none⟩) hlb).trans (by simpa using p3),(hlow.cell (p:=⟨x.l.b,x.l.o+4,none⟩) hlb).trans (by simpa using p4),(hlow.cell (p:=⟨x.l.b,x.l.o+5,none⟩) hlb).trans (by simpa using p5)⟩)
 obtain ⟨s1,hs1⟩:∃ s1,108 :: 101 :: 97 :: 115 :: 116 :: 32 :: d0=s1:=⟨_,rfl⟩
 have ls1:s1.length=6+d0.length:=by rw [<- hs1];simp <;> omega
 obtain ⟨s2,hs2⟩:∃ s2,s1++[32]=s2:=⟨_,rfl⟩
 have ls2:s2.length=s1.length+1:=by rw [<- hs2];simp <;> omega
 obtain ⟨s3,hs3⟩:∃ s3,s2++b0=s3:=⟨_,rfl⟩
 have ls3:s3.length=s2.length+b0.length:=by rw [<- hs3];simp <;> omega
 obtain ⟨s4,hs4⟩:∃ s4,s3++[32,40]=s4:=⟨_,rfl⟩
 have ls4:s4.length=s3.length+2:=by rw [<- hs4];simp <;> omega
 obtain ⟨s5,hs5⟩:∃ s5,s4++a0=s5:=⟨_,rfl⟩
 have ls5:s5.length=s4.length+a0.length:=by rw [<- hs5];simp <;> omega
 obtain ⟨s6,hs6⟩:∃ s6,s5++[41]=s6:=⟨_,rfl⟩
 have ls6:s6.length=s5.length+1:=by rw [<- hs6];simp <;> omega
 have gs1:¬ 9223372036854775807<6+d0.length:=by omega
 have gs2:¬ 9223372036854775807<s1.length+1:=by omega
 have gs3:¬ 9223372036854775807<s2.length+b0.length:=by omega
 have gs4:¬ 9223372036854775807<s3.length+2:=by omega
 have gs5:¬ 9223372036854775807<s4.length+a0.length:=by omega
 have gs6:¬ 9223372036854775807<s5.length+1:=by omega
 have hfin:txtF (.mk 16 [] (m:Int) [] bl [g])=s6:=by rw [e,<- hs6,<- hs5,<- hs4,<- hs3,<- hs2,<- hs1];simp
 simp only [Frm.kind,Frm.name,Frm.n,Frm.terms,Frm.binds,Frm.l,List.length_cons,List.length_nil] at ⊢
 rw [hfin]
 clear hW0 hB hk hb0 hx e hlen hfin hLB ls1 ls2 ls3 ls4 ls5 ls6 hG hc0 hy0 hlb hbl hbo p0 p1 p2 p3 p4 p5 hm
 go_enter Tryz.func46,Tryz.ntmps46
 go_wp2_with fail
 rw [<- HW.out.1,<- HW.out.2]
 refine wp_region_U 17 (S:=fun W=>Below W0.heap.size W0 W) (by kernel_rfl) (Below.refl _ _).drew (fun hHeld=>?_)
 refine take_U (i:=0) (v:=?_) rfl (by kernel_rfl) (by kernel_rfl) (by kernel_rfl) (by kernel_rfl) (fun _ _ _ h=>h) (by rfl) ?_ hHeld ?_
 rotate_left
 ·intro w hSw;obtain ⟨b2,b4,b5,p0,p1,p2,p3,p4,p5⟩:=HC.out w hSw;go_simp;all_goals (with_reducible rfl)
 try simp only [Act.put,ub1,ub2,ub3]
 refine take_U (i:=5) (v:=?_) rfl (by kernel_rfl) (by kernel_rfl) (by kernel_rfl) (by kernel_rfl) (fun _ _ _ h=>h) (by rfl) ?_ hHeld ?_
 rotate_left
 ·intro w hSw;obtain ⟨b2,b4,b5,p0,p1,p2,p3,p4,p5⟩:=HC.out w hSw;go_simp;all_goals (with_reducible rfl)
 try simp only [Act.put,ub1,ub2,ub3]
 refine take_U (i:=10) (v:=?_) rfl (by kernel_rfl) (by kernel_rfl) (by kernel_rfl) (by kernel_rfl) (fun _ _ _ h=>h) (by rfl) ?_ hHeld ?_
 rotate_left
 ·intro w hSw;obtain ⟨b2,b4,b5,p0,p1,p2,p3,p4,p5⟩:=HC.out w hSw;go_simp;all_goals (with_reducible rfl)
 try simp only [Act.put,ub1,ub2,ub3]
 refine take_U (i:=1) (v:=?_) rfl (by kernel_rfl) (by kernel_rfl) (by kernel_rfl) (by kernel_rfl) (fun _ _ _ h=>h) (by rfl) ?_ hHeld ?_
 rotate_left
 ·intro w hSw;obtain ⟨b2,b4,b5,p0,p1,p2,p3,p4,p5⟩:=HC.out w hSw;go_simp;all_goals (with_reducible rfl)
 try simp only [Act.put,ub1,ub2,ub3]
 refine take_U (i:=6) (v:=?_) rfl (by kernel_rfl) (by kernel_rfl) (by kernel_rfl) (by kernel_rfl) (fun _ _ _ h=>h) (by rfl) ?_ hHeld ?_
 rotate_left
 ·intro w hSw;obtain ⟨b2,b4,b5,p0,p1,p2,p3,p4,p5⟩:=HC.out w hSw;go_simp;all_goals (with_reducible rfl)
 try simp only [Act.put,ub1,ub2,ub3]
 refine take_U (i:=11) (v:=?_) rfl (by kernel_rfl) (by kernel_rfl) (by kernel_rfl) (by kernel_rfl) (fun _ _ _ h=>h) (by rfl) ?_ hHeld ?_
 rotate_left
 ·intro w hSw;obtain ⟨b2,b4,b5,p0,p1,p2,p3,p4,p5⟩:=HC.out w hSw;go_simp;all_goals (with_reducible rfl)
 try simp only [Act.put,ub1,ub2,ub3]
 refine take_U (i:=12) (v:=?_) rfl (by kernel_rfl) (by kernel_rfl) (by kernel_rfl) (by kernel_rfl) (fun _ _ _ h=>h) (by rfl) ?_ hHeld ?_
 rotate_left
 ·intro w hSw;obtain ⟨b2,b4,b5,p0,p1,p2,p3,p4,p5⟩:=HC.out w hSw;go_simp;all_goals (with_reducible rfl)
 try simp only [Act.put,ub1,ub2,ub3]
 refine take_U (i:=13) (v:=?_) rfl (by kernel_rfl) (by kernel_rfl) (by kernel_rfl) (by kernel_rfl) (fun _ _ _ h=>h) (by rfl) ?_ hHeld ?_
 rotate_left
 ·intro w hSw;obtain ⟨b2,b4,b5,p0,p1,p2,p3,p4,p5⟩:=HC.out w hSw;go_simp;all_goals (with_reducible rfl)
 try simp only [Act.put,ub1,ub2,ub3]
 refine ready_U (rs:=[2]) (by kernel_rfl) (by simp) ?_
 refine cons_U rfl (fun K hK=>?_) nil_U
 go_simp
 refine (HDG.out _ hHeld).mono ?_
 rintro e w2 ⟨rfl,hb1⟩
 have HB1:=Lh hb1
 clear hb1
 go_simp
 refine hK.out _ _ ?_ (fun hHeld2=>?_)
 ·exact Below.trans hHeld (Below.mono HB1.out (Below.size hHeld))
 clear hK K hHeld
 have hHeld:=hHeld2
 clear hHeld2
 try simp only [Act.put,ub1,ub2,ub3]
 refine take_U (i:=3) (v:=?_) rfl (by kernel_rfl) (by kernel_rfl) (by kernel_rfl) (by kernel_rfl) (fun _ _ _ h=>h) (by rfl) ?_ hHeld ?_
 rotate_left
 ·intro w hSw;obtain ⟨b2,b4,b5,p0,p1,p2,p3,p4,p5⟩:=HC.out w hSw;go_simp;all_goals (with_reducible rfl)
 try simp only [Act.put,ub1,ub2,ub3]
 refine take_U (i:=4) (v:=?_) rfl (by kernel_rfl) (by kernel_rfl) (by kernel_rfl) (by kernel_rfl) (fun _ _ _ h=>h) (by rfl) ?_ hHeld ?_
 rotate_left
 ·intro w hSw;obtain ⟨b2,b4,b5,p0,p1,p2,p3,p4,p5⟩:=HC.out w hSw;go_simp;all_goals (with_reducible rfl)
 try simp only [Act.put,ub1,ub2,ub3]
 refine ready_U (rs:=[7]) (by kernel_rfl) (by simp) ?_
 refine cons_U rfl (fun K hK=>?_) nil_U
 go_simp
 refine (HBN.out _ hHeld).mono ?_
 rintro e w3 ⟨rfl,hb2⟩
 have HB2:=Lh hb2
 clear hb2
 go_simp
 refine hK.out _ _ ?_ (fun hHeld2=>?_)
 ·exact Below.trans hHeld (Below.mono HB2.out (Below.size hHeld))
 clear hK K hHeld
 have hHeld:=hHeld2
 clear hHeld2
 try simp only [Act.put,ub1,ub2,ub3]
 refine take_U (i:=8) (v:=?_) rfl (by kernel_rfl) (by kernel_rfl) (by kernel_rfl) (by kernel_rfl) (fun _ _ _ h=>h) (by rfl) ?_ hHeld ?_
 rotate_left
 ·intro w hSw;obtain ⟨b2,b4,b5,p0,p1,p2,p3,p4,p5⟩:=HC.out w hSw;go_simp;all_goals (with_reducible rfl)
 try simp only [Act.put,ub1,ub2,ub3]
 refine take_U (i:=9) (v:=?_) rfl (by kernel_rfl) (by kernel_rfl) (by kernel_rfl) (by kernel_rfl) (fun _ _ _ h=>h) (by rfl) ?_ hHeld ?_
 rotate_left
 ·intro w hSw;obtain ⟨b2,b4,b5,p0,p1,p2,p3,p4,p5⟩:=HC.out w hSw;go_simp;all_goals (with_reducible rfl)
 try simp only [Act.put,ub1,ub2,ub3]
 refine ready_U (rs:=[14]) (by kernel_rfl) (by simp) ?_
 refine cons_U rfl (fun K hK=>?_) nil_U
 go_simp
 refine (HA.out _ hHeld).mono ?_
 rintro e w4 ⟨rfl,hb3⟩
 have HB3:=Lh hb3
 clear hb3
 go_simp
 refine hK.out _ _ ?_ (fun hHeld2=>?_)
 ·exact Below.trans hHeld (Below.mono HB3.out (Below.size hHeld))
 clear hK K hHeld
 have hHeld:=hHeld2
 clear hHeld2
 try simp only [Act.put,ub1,ub2,ub3]
 refine take_U (i:=15) (v:=?_) rfl (by kernel_rfl) (by kernel_rfl) (by kernel_rfl) (by kernel_rfl) (fun _ _ _ h=>h) (by rfl) ?_ hHeld ?_
 rotate_left
 ·intro w hSw;obtain ⟨b2,b4,b5,p0,p1,p2,p3,p4,p5⟩:=HC.out w hSw;go_simp;all_goals (with_reducible rfl)
 try simp only [Act.put,ub1,ub2,ub3]
 refine take_U (i:=16) (v:=?_) rfl (by kernel_rfl) (by kernel_rfl) (by kernel_rfl) (by kernel_rfl) (fun _ _ _ h=>h) (by rfl) ?_ hHeld ?_
 rotate_left
 ·intro w hSw;obtain ⟨b2,b4,b5,p0,p1,p2,p3,p4,p5⟩:=HC.out w hSw;go_simp;all_goals (with_reducible rfl)
 try simp only [Act.put,ub1,ub2,ub3]
 refine ready_U (rs:=[17]) (by kernel_rfl) (by simp) ?_
 refine cons_V rfl (by kernel_rfl) (fun K hK=>?_) nil_U
 go_simp
 refine hK.out _ _ ?_
 clear hK K
 try simp only [Act.put,ub1,ub2,ub3]
 refine done_U (by kernel_rfl) ?_ _
 go_wp2_with fail
 go_ret
 exact ⟨rfl,HB0.out.trans (Below.mono hHeld HB0.out.size)⟩
theorem rtext_17 (m:Nat) (hm:m<=1099511627776) (bl:List Bnd) (g:Frm) (hG:TextOk g) (hbl:bl.length<=6) (hbo:bl.all bndOk=true):TextOk (.mk 17 [] (m:Int) [] bl [g]):=by
 intro x w hx hlen
 have e:txtF (.mk 17 [] (m:Int) [] bl [g])=[109,111,115,116,32]++(Lib.decDigits m++([32]++(txtBinds bl++([32,40]++(txtF g++[41]))))):=by rw [txtF_nil];simp [txtAt,tightK,show kwOf kwAll 17=[109,111,115,116] from rfl];rfl
 rw [e] at hlen
 simp only [List.length_append,List.length_cons,List.length_nil] at hlen
 obtain ⟨hla,hlb⟩:x.l.a=some ⟨x.l.b,x.l.o,none⟩/\x.l.b<w.heap.size:=by have:=hx.l.at_ (by simp [Frm.l]);exact this
 rw [hla]
 clear hla
 obtain ⟨W0,hW0⟩:∃ W0,W0=w.alloc (.cells #[.int .i64 17,.string ⟨#[]⟩,.int .i64 (m:Int),.slice x.t.a 0 x.t.cap,.slice x.b.a bl.length x.b.cap,.slice (some ⟨x.l.b,x.l.o,none⟩) 1 x.l.cap] 28):=⟨_,rfl⟩
 obtain ⟨B,hB⟩:∃ B,B=w.heap.size:=⟨_,rfl⟩
 have hb0:Below w.heap.size w W0:=by rw [hW0];exact below_new _ _
 have hk:=heap_alloc_new w (.cells #[.int .i64 17,.string ⟨#[]⟩,.int .i64 (m:Int),.slice x.t.a 0 x.t.cap,.slice x.b.a bl.length x.b.cap,.slice (some ⟨x.l.b,x.l.o,none⟩) 1 x.l.cap] 28)
 rw [<- hW0,<- hB] at hk
 have HB0:=Lh hb0
 have HW:=Lh (aI hW0 hB)
 have hLB:∀ W,Below W0.heap.size W0 W->Below w.heap.size w W:=fun W hW=>hb0.trans (hW.mono hb0.size)
 obtain ⟨y0,hy0,hc0⟩:∃ y,FrmIn w (·<w.heap.size) g y/\CellsAt w x.l.b (x.l.o+0) (y.cells g):=hx.l.frm 0 (by simp [Frm.l])
 obtain ⟨p0,p1,p2,p3,p4,p5⟩:=CellsAt.six hc0
 have HA:Hid (∀ W,Below W0.heap.size W0 W->Calls Tryz.prog 46 #[.agg #[.int .i64 g.kind,.string ⟨g.name.toArray⟩,.int .i64 g.n,.slice y0.t.a g.terms.length y0.t.cap,.slice y0.b.a g.binds.length y0.b.cap,.slice y0.l.a g.l.length y0.l.cap]] W fun e w'=>e=.returned (.string ⟨(txtF g).toArray⟩)/\Below W.heap.size W w'):=Lh (fun W hW=>hG y0 W (hy0.later (hLB W hW) (hLB W hW).size) (by omega))
 have HBN:=Lh (fun (W:World) (hW:Below W0.heap.size W0 W)=>rbinds7_any bl x.b W ((SlIn.agree hx.binds (agree_of_below (hLB W hW))).mono (fun k hk=>Nat.lt_of_lt_of_le hk (hLB W hW).size)) hbl hbo)
 have HDG:=Lh (fun (W:World) (_:Below W0.heap.size W0 W)=>rdigits_any m m W (Nat.le_refl _) (by omega))
 generalize Lib.decDigits m=d0 at e hlen HDG
 generalize txtF g=a0 at e hlen HA
 generalize txtBinds bl=b0 at e hlen HBN
 have HC:Hid (∀ W,Below W0.heap.size W0 W->W.cell? ⟨B,2,none⟩=some (.int .i64 (m:Int))/\W.cell? ⟨B,4,none⟩=some (.slice x.b.a bl.length x.b.cap)/\W.cell? ⟨B,5,none⟩=some (.slice (some ⟨x.l.b,x.l.o,none⟩) 1 x.l.cap)/\W.cell? ⟨x.l.b,x.l.o,none⟩=some (.int .i64 g.kind)/\W.cell? ⟨x.l.b,x.l.o+1,none⟩=some (.string ⟨g.name.toArray⟩)/\W.cell? ⟨x.l.b,x.l.o+2,none⟩=some (.int .i64 g.n)/\W.cell? ⟨x.l.b,x.l.o+3,none⟩=some (.slice y0.t.a g.terms.length y0.t.cap)/\W.cell? ⟨x.l.b,x.l.o+4,none⟩=some (.slice y0.b.a g.binds.length y0.b.cap)/\W.cell? ⟨x.l.b,x.l.o+5,none⟩=some (.slice y0.l.a g.l.length y0.l.cap)):=Lh (fun W hW=>by
  have k1:=(hW.block B (gS hk).1).trans hk
  have hlow:=hLB W hW
  exact ⟨cH k1 rfl,cH k1 rfl,cH k1 rfl,(hlow.cell (p:=⟨x.l.b,x.l.o,none⟩) hlb).trans (by simpa using p0),(hlow.cell (p:=⟨x.l.b,x.l.o+1,none⟩) hlb).trans (by simpa using p1),(hlow.cell (p:=⟨x.l.b,x.l.o+2,none⟩) hlb).trans (by simpa using p2),(hlow.cell (p:=⟨x.l.b,x.l.o+3,none⟩) hlb).trans (by simpa using p3),(hlow.cell (p:=⟨x.l.b,x.l.o+4,none⟩) hlb).trans (by simpa using p4),(hlow.cell (p:=⟨x.l.b,x.l.o+5,none⟩) hlb).trans (by simpa using p5)⟩)
 obtain ⟨s1,hs1⟩:∃ s1,109 :: 111 :: 115 :: 116 :: 32 :: d0=s1:=⟨_,rfl⟩
 have ls1:s1.length=5+d0.length:=by rw [<- hs1];simp <;> omega
 obtain ⟨s2,hs2⟩:∃ s2,s1++[32]=s2:=⟨_,rfl⟩
 have ls2:s2.length=s1.length+1:=by rw [<- hs2];simp <;> omega
 obtain ⟨s3,hs3⟩:∃ s3,s2++b0=s3:=⟨_,rfl⟩
 have ls3:s3.length=s2.length+b0.length:=by rw [<- hs3];simp <;> omega
 obtain ⟨s4,hs4⟩:∃ s4,s3++[32,40]=s4:=⟨_,rfl⟩
 have ls4:s4.length=s3.length+2:=by rw [<- hs4];simp <;> omega
 obtain ⟨s5,hs5⟩:∃ s5,s4++a0=s5:=⟨_,rfl⟩
 have ls5:s5.length=s4.length+a0.length:=by rw [<- hs5];simp <;> omega
 obtain ⟨s6,hs6⟩:∃ s6,s5++[41]=s6:=⟨_,rfl⟩
 have ls6:s6.length=s5.length+1:=by rw [<- hs6];simp <;> omega
 have gs1:¬ 9223372036854775807<5+d0.length:=by omega
 have gs2:¬ 9223372036854775807<s1.length+1:=by omega
 have gs3:¬ 9223372036854775807<s2.length+b0.length:=by omega
 have gs4:¬ 9223372036854775807<s3.length+2:=by omega
 have gs5:¬ 9223372036854775807<s4.length+a0.length:=by omega
 have gs6:¬ 9223372036854775807<s5.length+1:=by omega
 have hfin:txtF (.mk 17 [] (m:Int) [] bl [g])=s6:=by rw [e,<- hs6,<- hs5,<- hs4,<- hs3,<- hs2,<- hs1];simp
 simp only [Frm.kind,Frm.name,Frm.n,Frm.terms,Frm.binds,Frm.l,List.length_cons,List.length_nil] at ⊢
 rw [hfin]
 clear hW0 hB hk hb0 hx e hlen hfin hLB ls1 ls2 ls3 ls4 ls5 ls6 hG hc0 hy0 hlb hbl hbo p0 p1 p2 p3 p4 p5 hm
 go_enter Tryz.func46,Tryz.ntmps46
 go_wp2_with fail
 rw [<- HW.out.1,<- HW.out.2]
 refine wp_region_U 17 (S:=fun W=>Below W0.heap.size W0 W) (by kernel_rfl) (Below.refl _ _).drew (fun hHeld=>?_)
 refine take_U (i:=0) (v:=?_) rfl (by kernel_rfl) (by kernel_rfl) (by kernel_rfl) (by kernel_rfl) (fun _ _ _ h=>h) (by rfl) ?_ hHeld ?_
 rotate_left
 ·intro w hSw;obtain ⟨b2,b4,b5,p0,p1,p2,p3,p4,p5⟩:=HC.out w hSw;go_simp;all_goals (with_reducible rfl)
 try simp only [Act.put,ub1,ub2,ub3]
 refine take_U (i:=5) (v:=?_) rfl (by kernel_rfl) (by kernel_rfl) (by kernel_rfl) (by kernel_rfl) (fun _ _ _ h=>h) (by rfl) ?_ hHeld ?_
 rotate_left
 ·intro w hSw;obtain ⟨b2,b4,b5,p0,p1,p2,p3,p4,p5⟩:=HC.out w hSw;go_simp;all_goals (with_reducible rfl)
 try simp only [Act.put,ub1,ub2,ub3]
 refine take_U (i:=10) (v:=?_) rfl (by kernel_rfl) (by kernel_rfl) (by kernel_rfl) (by kernel_rfl) (fun _ _ _ h=>h) (by rfl) ?_ hHeld ?_
 rotate_left
 ·intro w hSw;obtain ⟨b2,b4,b5,p0,p1,p2,p3,p4,p5⟩:=HC.out w hSw;go_simp;all_goals (with_reducible rfl)
 try simp only [Act.put,ub1,ub2,ub3]
 refine take_U (i:=1) (v:=?_) rfl (by kernel_rfl) (by kernel_rfl) (by kernel_rfl) (by kernel_rfl) (fun _ _ _ h=>h) (by rfl) ?_ hHeld ?_
 rotate_left
 ·intro w hSw;obtain ⟨b2,b4,b5,p0,p1,p2,p3,p4,p5⟩:=HC.out w hSw;go_simp;all_goals (with_reducible rfl)
 try simp only [Act.put,ub1,ub2,ub3]
 refine take_U (i:=6) (v:=?_) rfl (by kernel_rfl) (by kernel_rfl) (by kernel_rfl) (by kernel_rfl) (fun _ _ _ h=>h) (by rfl) ?_ hHeld ?_
 rotate_left
 ·intro w hSw;obtain ⟨b2,b4,b5,p0,p1,p2,p3,p4,p5⟩:=HC.out w hSw;go_simp;all_goals (with_reducible rfl)
 try simp only [Act.put,ub1,ub2,ub3]
 refine take_U (i:=11) (v:=?_) rfl (by kernel_rfl) (by kernel_rfl) (by kernel_rfl) (by kernel_rfl) (fun _ _ _ h=>h) (by rfl) ?_ hHeld ?_
 rotate_left
 ·intro w hSw;obtain ⟨b2,b4,b5,p0,p1,p2,p3,p4,p5⟩:=HC.out w hSw;go_simp;all_goals (with_reducible rfl)
 try simp only [Act.put,ub1,ub2,ub3]
 refine take_U (i:=12) (v:=?_) rfl (by kernel_rfl) (by kernel_rfl) (by kernel_rfl) (by kernel_rfl) (fun _ _ _ h=>h) (by rfl) ?_ hHeld ?_
 rotate_left
 ·intro w hSw;obtain ⟨b2,b4,b5,p0,p1,p2,p3,p4,p5⟩:=HC.out w hSw;go_simp;all_goals (with_reducible rfl)
 try simp only [Act.put,ub1,ub2,ub3]
 refine take_U (i:=13) (v:=?_) rfl (by kernel_rfl) (by kernel_rfl) (by kernel_rfl) (by kernel_rfl) (fun _ _ _ h=>h) (by rfl) ?_ hHeld ?_
 rotate_left
 ·intro w hSw;obtain ⟨b2,b4,b5,p0,p1,p2,p3,p4,p5⟩:=HC.out w hSw;go_simp;all_goals (with_reducible rfl)
 try simp only [Act.put,ub1,ub2,ub3]
 refine ready_U (rs:=[2]) (by kernel_rfl) (by simp) ?_
 refine cons_U rfl (fun K hK=>?_) nil_U
 go_simp
 refine (HDG.out _ hHeld).mono ?_
 rintro e w2 ⟨rfl,hb1⟩
 have HB1:=Lh hb1
 clear hb1
 go_simp
 refine hK.out _ _ ?_ (fun hHeld2=>?_)
 ·exact Below.trans hHeld (Below.mono HB1.out (Below.size hHeld))
 clear hK K hHeld
 have hHeld:=hHeld2
 clear hHeld2
 try simp only [Act.put,ub1,ub2,ub3]
 refine take_U (i:=3) (v:=?_) rfl (by kernel_rfl) (by kernel_rfl) (by kernel_rfl) (by kernel_rfl) (fun _ _ _ h=>h) (by rfl) ?_ hHeld ?_
 rotate_left
 ·intro w hSw;obtain ⟨b2,b4,b5,p0,p1,p2,p3,p4,p5⟩:=HC.out w hSw;go_simp;all_goals (with_reducible rfl)
 try simp only [Act.put,ub1,ub2,ub3]
 refine take_U (i:=4) (v:=?_) rfl (by kernel_rfl) (by kernel_rfl) (by kernel_rfl) (by kernel_rfl) (fun _ _ _ h=>h) (by rfl) ?_ hHeld ?_
 rotate_left
 ·intro w hSw;obtain ⟨b2,b4,b5,p0,p1,p2,p3,p4,p5⟩:=HC.out w hSw;go_simp;all_goals (with_reducible rfl)
 try simp only [Act.put,ub1,ub2,ub3]
 refine ready_U (rs:=[7]) (by kernel_rfl) (by simp) ?_
 refine cons_U rfl (fun K hK=>?_) nil_U
 go_simp
 refine (HBN.out _ hHeld).mono ?_
 rintro e w3 ⟨rfl,hb2⟩
 have HB2:=Lh hb2
 clear hb2
 go_simp
 refine hK.out _ _ ?_ (fun hHeld2=>?_)
 ·exact Below.trans hHeld (Below.mono HB2.out (Below.size hHeld))
 clear hK K hHeld
 have hHeld:=hHeld2
 clear hHeld2
 try simp only [Act.put,ub1,ub2,ub3]
 refine take_U (i:=8) (v:=?_) rfl (by kernel_rfl) (by kernel_rfl) (by kernel_rfl) (by kernel_rfl) (fun _ _ _ h=>h) (by rfl) ?_ hHeld ?_
 rotate_left
 ·intro w hSw;obtain ⟨b2,b4,b5,p0,p1,p2,p3,p4,p5⟩:=HC.out w hSw;go_simp;all_goals (with_reducible rfl)
 try simp only [Act.put,ub1,ub2,ub3]
 refine take_U (i:=9) (v:=?_) rfl (by kernel_rfl) (by kernel_rfl) (by kernel_rfl) (by kernel_rfl) (fun _ _ _ h=>h) (by rfl) ?_ hHeld ?_
 rotate_left
 ·intro w hSw;obtain ⟨b2,b4,b5,p0,p1,p2,p3,p4,p5⟩:=HC.out w hSw;go_simp;all_goals (with_reducible rfl)
 try simp only [Act.put,ub1,ub2,ub3]
 refine ready_U (rs:=[14]) (by kernel_rfl) (by simp) ?_
 refine cons_U rfl (fun K hK=>?_) nil_U
 go_simp
 refine (HA.out _ hHeld).mono ?_
 rintro e w4 ⟨rfl,hb3⟩
 have HB3:=Lh hb3
 clear hb3
 go_simp
 refine hK.out _ _ ?_ (fun hHeld2=>?_)
 ·exact Below.trans hHeld (Below.mono HB3.out (Below.size hHeld))
 clear hK K hHeld
 have hHeld:=hHeld2
 clear hHeld2
 try simp only [Act.put,ub1,ub2,ub3]
 refine take_U (i:=15) (v:=?_) rfl (by kernel_rfl) (by kernel_rfl) (by kernel_rfl) (by kernel_rfl) (fun _ _ _ h=>h) (by rfl) ?_ hHeld ?_
 rotate_left
 ·intro w hSw;obtain ⟨b2,b4,b5,p0,p1,p2,p3,p4,p5⟩:=HC.out w hSw;go_simp;all_goals (with_reducible rfl)
 try simp only [Act.put,ub1,ub2,ub3]
 refine take_U (i:=16) (v:=?_) rfl (by kernel_rfl) (by kernel_rfl) (by kernel_rfl) (by kernel_rfl) (fun _ _ _ h=>h) (by rfl) ?_ hHeld ?_
 rotate_left
 ·intro w hSw;obtain ⟨b2,b4,b5,p0,p1,p2,p3,p4,p5⟩:=HC.out w hSw;go_simp;all_goals (with_reducible rfl)
 try simp only [Act.put,ub1,ub2,ub3]
 refine ready_U (rs:=[17]) (by kernel_rfl) (by simp) ?_
 refine cons_V rfl (by kernel_rfl) (fun K hK=>?_) nil_U
 go_simp
 refine hK.out _ _ ?_
 clear hK K
 try simp only [Act.put,ub1,ub2,ub3]
 refine done_U (by kernel_rfl) ?_ _
 go_wp2_with fail
 go_ret
 exact ⟨rfl,HB0.out.trans (Below.mono hHeld HB0.out.size)⟩
theorem rtext_atom (j:Nat) (hj6:j<6) (kk:Int) (hkk:kk=(j:Int)+3) (t u:Trm) (ht:termedF t=true) (hu:termedF u=true):TextOk (.mk kk [] 0 [t,u] [] []):=by
 intro x w hx hlen
 have e:txtF (.mk kk [] 0 [t,u] [] [])=kwOf kwAtom kk++([40]++(txtTerm t++([44,32]++(txtTerm u++[41])))):=by rw [txtF_two,if_neg (by omega),if_neg (by omega),if_neg (by omega),if_neg (by omega),if_neg (by omega),if_neg (by omega),if_neg (by omega),if_neg (by omega)]
 rw [e] at hlen
 simp only [List.length_append,List.length_cons,List.length_nil] at hlen
 obtain ⟨hla,hlb⟩:x.t.a=some ⟨x.t.b,x.t.o,none⟩/\x.t.b<w.heap.size:=by have:=hx.terms.at_ (by simp [Frm.terms]);exact this
 rw [hla]
 clear hla
 obtain ⟨W0,hW0⟩:∃ W0,W0=w.alloc (.cells #[.int .i64 kk,.string ⟨#[]⟩,.int .i64 0,.slice (some ⟨x.t.b,x.t.o,none⟩) 2 x.t.cap,.slice x.b.a 0 x.b.cap,.slice x.l.a 0 x.l.cap] 28):=⟨_,rfl⟩
 obtain ⟨B,hB⟩:∃ B,B=w.heap.size:=⟨_,rfl⟩
 have hb0:Below w.heap.size w W0:=by rw [hW0];exact below_new _ _
 have hk:=heap_alloc_new w (.cells #[.int .i64 kk,.string ⟨#[]⟩,.int .i64 0,.slice (some ⟨x.t.b,x.t.o,none⟩) 2 x.t.cap,.slice x.b.a 0 x.b.cap,.slice x.l.a 0 x.l.cap] 28)
 rw [<- hW0,<- hB] at hk
 have HB0:=Lh hb0
 have HW:=Lh (aI hW0 hB)
 have hLB:∀ W,Below W0.heap.size W0 W->Below w.heap.size w W:=fun W hW=>hb0.trans (hW.mono hb0.size)
 obtain ⟨_,_,_,hfl,_⟩:=hx.terms.flat Trm.flatT
 obtain ⟨p0,p1,p2⟩:=hfl.three 0 (by simp [Frm.terms]) rfl
 obtain ⟨q0,q1,q2⟩:=hfl.three 1 (by simp [Frm.terms]) rfl
 have HA0:=Lh (fun (W:World) (_:Below W0.heap.size W0 W)=>rterm_any t W ht)
 have HA1:=Lh (fun (W:World) (_:Below W0.heap.size W0 W)=>rterm_any u W hu)
 generalize txtTerm t=a0 at e hlen HA0
 generalize txtTerm u=a1 at e hlen HA1
 have HTS:=Lh (fun W=>rpreds_any W)
 have hwd0:=kwAtom_len kk
 obtain ⟨wd,hwd⟩:∃ wd,kwOf kwAtom kk=wd:=⟨_,rfl⟩
 rw [hwd] at e hlen hwd0
 rw [hkk] at hwd
 have HWD:=Lh hwd
 have c1:(kk==1)=false:=by simp;omega
 have c2:(kk==2)=false:=by simp;omega
 have c9:(kk==9)=false:=by simp;omega
 have c10:(kk==10)=false:=by simp;omega
 have c11:(kk==11)=false:=by simp;omega
 have c12:(kk==12)=false:=by simp;omega
 have c13:(kk==13)=false:=by simp;omega
 have c14:(kk==14)=false:=by simp;omega
 have c15:(kk==15)=false:=by simp;omega
 have c16:(kk==16)=false:=by simp;omega
 have c17:(kk==17)=false:=by simp;omega
 have hwk:IntKind.i64.wrap (kk - 3)=(j:Int):=by rw [hkk,show (j:Int)+3 - 3=(j:Int) from by omega];exact IntWalk.i64_in _ (by omega)
 have i1:(0:Int)<=(j:Int):=by omega
 have i2:(j:Int)<6:=by omega
 have HC:Hid (∀ W,Below W0.heap.size W0 W->W.cell? ⟨B,0,none⟩=some (.int .i64 kk)/\W.cell? ⟨B,3,none⟩=some (.slice (some ⟨x.t.b,x.t.o,none⟩) 2 x.t.cap)/\W.cell? ⟨x.t.b,x.t.o,none⟩=some (.int .i64 t.kind)/\W.cell? ⟨x.t.b,x.t.o+1,none⟩=some (.string ⟨t.name.toArray⟩)/\W.cell? ⟨x.t.b,x.t.o+2,none⟩=some (.int .i64 t.n)/\W.cell? ⟨x.t.b,x.t.o+3,none⟩=some (.int .i64 u.kind)/\W.cell? ⟨x.t.b,x.t.o+4,none⟩=some (.string ⟨u.name.toArray⟩)/\W.cell? ⟨x.t.b,x.t.o+5,none⟩=some (.int .i64 u.n)):=Lh (fun W hW=>by
  have k1:=(hW.block B (gS hk).1).trans hk
  have hlow:=hLB W hW
  exact ⟨cH k1 rfl,cH k1 rfl,(hlow.cell (p:=⟨x.t.b,x.t.o,none⟩) hlb).trans (by simpa [Frm.terms,Nat.add_assoc] using p0),(hlow.cell (p:=⟨x.t.b,x.t.o+1,none⟩) hlb).trans (by simpa [Frm.terms,Nat.add_assoc] using p1),(hlow.cell (p:=⟨x.t.b,x.t.o+2,none⟩) hlb).trans (by simpa [Frm.terms,Nat.add_assoc] using p2),(hlow.cell (p:=⟨x.t.b,x.t.o+3,none⟩) hlb).trans (by simpa [Frm.terms,Nat.add_assoc] using q0),(hlow.cell (p:=⟨x.t.b,x.t.o+4,none⟩) hlb).trans (by simpa [Frm.terms,Nat.add_assoc] using q1),(hlow.cell (p:=⟨x.t.b,x.t.o+5,none⟩) hlb).trans (by simpa [Frm.terms,Nat.add_assoc] using q2)⟩)
 obtain ⟨s1,hs1⟩:∃ s1,wd++[40]=s1:=⟨_,rfl⟩
 have ls1:s1.length=wd.length+1:=by rw [<- hs1];simp <;> omega
 obtain ⟨s2,hs2⟩:∃ s2,s1++a0=s2:=⟨_,rfl⟩
 have ls2:s2.length=s1.length+a0.length:=by rw [<- hs2];simp <;> omega
 obtain ⟨s3,hs3⟩:∃ s3,s2++[44,32]=s3:=⟨_,rfl⟩
 have ls3:s3.length=s2.length+2:=by rw [<- hs3];simp <;> omega
 obtain ⟨s4,hs4⟩:∃ s4,s3++a1=s4:=⟨_,rfl⟩
 have ls4:s4.length=s3.length+a1.length:=by rw [<- hs4];simp <;> omega
 obtain ⟨s5,hs5⟩:∃ s5,s4++[41]=s5:=⟨_,rfl⟩
 have ls5:s5.length=s4.length+1:=by rw [<- hs5];simp <;> omega
 have gs1:¬ 9223372036854775807<wd.length+1:=by omega
 have gs2:¬ 9223372036854775807<s1.length+a0.length:=by omega
 have gs3:¬ 9223372036854775807<s2.length+2:=by omega
 have gs4:¬ 9223372036854775807<s3.length+a1.length:=by omega
 have gs5:¬ 9223372036854775807<s4.length+1:=by omega
 have hfin:txtF (.mk kk [] 0 [t,u] [] [])=s5:=by rw [e,<- hs5,<- hs4,<- hs3,<- hs2,<- hs1];simp
 simp only [Frm.kind,Frm.name,Frm.n,Frm.terms,Frm.binds,Frm.l,List.length_cons,List.length_nil] at ⊢
 rw [hfin]
 clear hW0 hB hk hb0 hx e hlen hfin hLB ls1 ls2 ls3 ls4 ls5 hfl hlb p0 p1 p2 q0 q1 q2 hwd hwd0 hkk
 go_enter Tryz.func46,Tryz.ntmps46
 go_wp2_with fail
 rw [<- HW.out.1,<- HW.out.2]
 refine wp_region_U 21 (S:=fun W=>Below W0.heap.size W0 W) (by kernel_rfl) (Below.refl _ _).drew (fun hHeld=>?_)
 refine take_U (i:=1) (v:=?_) rfl (by kernel_rfl) (by kernel_rfl) (by kernel_rfl) (by kernel_rfl) (fun _ _ _ h=>h) (by rfl) ?_ hHeld ?_
 rotate_left
 ·intro w hSw;obtain ⟨b0,b3,p0,p1,p2,q0,q1,q2⟩:=HC.out w hSw;go_simp;all_goals (with_reducible rfl)
 try simp only [Act.put,ub1,ub2,ub3]
 refine take_U (i:=7) (v:=?_) rfl (by kernel_rfl) (by kernel_rfl) (by kernel_rfl) (by kernel_rfl) (fun _ _ _ h=>h) (by rfl) ?_ hHeld ?_
 rotate_left
 ·intro w hSw;obtain ⟨b0,b3,p0,p1,p2,q0,q1,q2⟩:=HC.out w hSw;go_simp;all_goals (with_reducible rfl)
 try simp only [Act.put,ub1,ub2,ub3]
 refine take_U (i:=14) (v:=?_) rfl (by kernel_rfl) (by kernel_rfl) (by kernel_rfl) (by kernel_rfl) (fun _ _ _ h=>h) (by rfl) ?_ hHeld ?_
 rotate_left
 ·intro w hSw;obtain ⟨b0,b3,p0,p1,p2,q0,q1,q2⟩:=HC.out w hSw;go_simp;all_goals (with_reducible rfl)
 try simp only [Act.put,ub1,ub2,ub3]
 refine take_U (i:=2) (v:=?_) rfl (by kernel_rfl) (by kernel_rfl) (by kernel_rfl) (by kernel_rfl) (fun _ _ _ h=>h) (by rfl) ?_ hHeld ?_
 rotate_left
 ·intro w hSw;obtain ⟨b0,b3,p0,p1,p2,q0,q1,q2⟩:=HC.out w hSw;go_simp;all_goals (with_reducible rfl)
 try simp only [Act.put,ub1,ub2,ub3]
 refine take_U (i:=8) (v:=?_) rfl (by kernel_rfl) (by kernel_rfl) (by kernel_rfl) (by kernel_rfl) (fun _ _ _ h=>h) (by rfl) ?_ hHeld ?_
 rotate_left
 ·intro w hSw;obtain ⟨b0,b3,p0,p1,p2,q0,q1,q2⟩:=HC.out w hSw;go_simp;all_goals (with_reducible rfl)
 try simp only [Act.put,ub1,ub2,ub3]
 refine take_U (i:=15) (v:=?_) rfl (by kernel_rfl) (by kernel_rfl) (by kernel_rfl) (by kernel_rfl) (fun _ _ _ h=>h) (by rfl) ?_ hHeld ?_
 rotate_left
 ·intro w hSw;obtain ⟨b0,b3,p0,p1,p2,q0,q1,q2⟩:=HC.out w hSw;go_simp;all_goals (with_reducible rfl)
 try simp only [Act.put,ub1,ub2,ub3]
 refine take_U (i:=3) (v:=?_) rfl (by kernel_rfl) (by kernel_rfl) (by kernel_rfl) (by kernel_rfl) (fun _ _ _ h=>h) (by rfl) ?_ hHeld ?_
 rotate_left
 ·intro w hSw;obtain ⟨b0,b3,p0,p1,p2,q0,q1,q2⟩:=HC.out w hSw;go_simp;all_goals (with_reducible rfl)
 try simp only [Act.put,ub1,ub2,ub3]
 refine take_U (i:=9) (v:=?_) rfl (by kernel_rfl) (by kernel_rfl) (by kernel_rfl) (by kernel_rfl) (fun _ _ _ h=>h) (by rfl) ?_ hHeld ?_
 rotate_left
 ·intro w hSw;obtain ⟨b0,b3,p0,p1,p2,q0,q1,q2⟩:=HC.out w hSw;go_simp;all_goals (with_reducible rfl)
 try simp only [Act.put,ub1,ub2,ub3]
 refine take_U (i:=16) (v:=?_) rfl (by kernel_rfl) (by kernel_rfl) (by kernel_rfl) (by kernel_rfl) (fun _ _ _ h=>h) (by rfl) ?_ hHeld ?_
 rotate_left
 ·intro w hSw;obtain ⟨b0,b3,p0,p1,p2,q0,q1,q2⟩:=HC.out w hSw;go_simp;all_goals (with_reducible rfl)
 try simp only [Act.put,ub1,ub2,ub3]
 refine take_U (i:=10) (v:=?_) rfl (by kernel_rfl) (by kernel_rfl) (by kernel_rfl) (by kernel_rfl) (fun _ _ _ h=>h) (by rfl) ?_ hHeld ?_
 rotate_left
 ·intro w hSw;obtain ⟨b0,b3,p0,p1,p2,q0,q1,q2⟩:=HC.out w hSw;go_simp;all_goals (with_reducible rfl)
 try simp only [Act.put,ub1,ub2,ub3]
 refine take_U (i:=17) (v:=?_) rfl (by kernel_rfl) (by kernel_rfl) (by kernel_rfl) (by kernel_rfl) (fun _ _ _ h=>h) (by rfl) ?_ hHeld ?_
 rotate_left
 ·intro w hSw;obtain ⟨b0,b3,p0,p1,p2,q0,q1,q2⟩:=HC.out w hSw;go_simp;all_goals (with_reducible rfl)
 try simp only [Act.put,ub1,ub2,ub3]
 refine ready_U (rs:=[0]) (by kernel_rfl) (by simp) ?_
 refine cons_U rfl (fun K hK=>?_) nil_U
 go_simp
 refine (HTS.out _).mono ?_
 rintro e w2 ⟨b,rfl,hcs,hb1⟩
 have x0:=hcs j hj6
 rw [HWD.out] at x0
 have HB1:=Lh hb1
 clear hb1 hcs
 go_simp
 refine hK.out _ _ ?_ (fun hHeld2=>?_)
 ·exact Below.trans hHeld (Below.mono HB1.out (Below.size hHeld))
 clear hK K hHeld
 have hHeld:=hHeld2
 clear hHeld2
 try simp only [Act.put,ub1,ub2,ub3]
 refine take_U (i:=4) (v:=?_) rfl (by kernel_rfl) (by kernel_rfl) (by kernel_rfl) (by kernel_rfl) (fun _ _ _ h=>h) (by rfl) ?_ hHeld ?_
 rotate_left
 ·intro w hSw;obtain ⟨b0,b3,p0,p1,p2,q0,q1,q2⟩:=HC.out w hSw;go_simp;all_goals (with_reducible rfl)
 try simp only [Act.put,ub1,ub2,ub3]
 refine ready_U (rs:=[5,11]) (by kernel_rfl) (by simp) ?_
 refine cons_U rfl (fun K hK=>?_) (cons_U rfl (fun K hK=>?_) nil_U)
 ·go_simp
  refine hK.out _ _ ?_ (fun hHeld2=>?_)
  ·exact hHeld
  clear hK K hHeld
  have hHeld:=hHeld2
  clear hHeld2
  try simp only [Act.put,ub1,ub2,ub3]
  refine take_U (i:=6) (v:=?_) rfl (by kernel_rfl) (by kernel_rfl) (by kernel_rfl) (by kernel_rfl) (fun _ _ _ h=>h) (by rfl) ?_ hHeld ?_
  rotate_left
  ·intro w hSw;obtain ⟨b0,b3,p0,p1,p2,q0,q1,q2⟩:=HC.out w hSw;go_simp;all_goals (with_reducible rfl)
  try simp only [Act.put,ub1,ub2,ub3]
  refine ready_U (rs:=[11]) (by kernel_rfl) (by simp) ?_
  refine cons_U rfl (fun K hK=>?_) nil_U
  go_simp
  refine (HA0.out _ hHeld).mono ?_
  rintro e w4 ⟨rfl,hb3⟩
  have HB3:=Lh hb3
  clear hb3
  have x0:=(HB3.out.cell (World.block_lt_of_cell? _ _ x0)).trans x0
  go_simp
  refine hK.out _ _ ?_ (fun hHeld2=>?_)
  ·exact Below.trans hHeld (Below.mono HB3.out (Below.size hHeld))
  clear hK K hHeld
  have hHeld:=hHeld2
  clear hHeld2
  try simp only [Act.put,ub1,ub2,ub3]
  refine take_U (i:=12) (v:=?_) rfl (by kernel_rfl) (by kernel_rfl) (by kernel_rfl) (by kernel_rfl) (fun _ _ _ h=>h) (by rfl) ?_ hHeld ?_
  rotate_left
  ·intro w hSw;obtain ⟨b0,b3,p0,p1,p2,q0,q1,q2⟩:=HC.out w hSw;go_simp;all_goals (with_reducible rfl)
  try simp only [Act.put,ub1,ub2,ub3]
  refine take_U (i:=13) (v:=?_) rfl (by kernel_rfl) (by kernel_rfl) (by kernel_rfl) (by kernel_rfl) (fun _ _ _ h=>h) (by rfl) ?_ hHeld ?_
  rotate_left
  ·intro w hSw;obtain ⟨b0,b3,p0,p1,p2,q0,q1,q2⟩:=HC.out w hSw;go_simp;all_goals (with_reducible rfl)
  try simp only [Act.put,ub1,ub2,ub3]
  refine ready_U (rs:=[18]) (by kernel_rfl) (by simp) ?_
  refine cons_U rfl (fun K hK=>?_) nil_U
  go_simp
  refine (HA1.out _ hHeld).mono ?_
  rintro e w5 ⟨rfl,hb4⟩
  have HB4:=Lh hb4
  clear hb4
  have x0:=(HB4.out.cell (World.block_lt_of_cell? _ _ x0)).trans x0
  go_simp
  refine hK.out _ _ ?_ (fun hHeld2=>?_)
  ·exact Below.trans hHeld (Below.mono HB4.out (Below.size hHeld))
  clear hK K hHeld
  have hHeld:=hHeld2
  clear hHeld2
  try simp only [Act.put,ub1,ub2,ub3]
  refine take_U (i:=19) (v:=?_) rfl (by kernel_rfl) (by kernel_rfl) (by kernel_rfl) (by kernel_rfl) (fun _ _ _ h=>h) (by rfl) ?_ hHeld ?_
  rotate_left
  ·intro w hSw;obtain ⟨b0,b3,p0,p1,p2,q0,q1,q2⟩:=HC.out w hSw;go_simp;all_goals (with_reducible rfl)
  try simp only [Act.put,ub1,ub2,ub3]
  refine take_U (i:=20) (v:=?_) rfl (by kernel_rfl) (by kernel_rfl) (by kernel_rfl) (by kernel_rfl) (fun _ _ _ h=>h) (by rfl) ?_ hHeld ?_
  rotate_left
  ·intro w hSw;obtain ⟨b0,b3,p0,p1,p2,q0,q1,q2⟩:=HC.out w hSw;go_simp;all_goals (with_reducible rfl)
  try simp only [Act.put,ub1,ub2,ub3]
  refine ready_U (rs:=[21]) (by kernel_rfl) (by simp) ?_
  refine cons_V rfl (by kernel_rfl) (fun K hK=>?_) nil_U
  go_simp
  refine hK.out _ _ ?_
  clear hK K
  try simp only [Act.put,ub1,ub2,ub3]
  refine done_U (by kernel_rfl) ?_ _
  go_wp2_with fail
  go_ret
  exact ⟨rfl,HB0.out.trans (Below.mono hHeld HB0.out.size)⟩
 ·go_simp
  refine (HA0.out _ hHeld).mono ?_
  rintro e w3 ⟨rfl,hb2⟩
  have HB2:=Lh hb2
  clear hb2
  have x0:=(HB2.out.cell (World.block_lt_of_cell? _ _ x0)).trans x0
  go_simp
  refine hK.out _ _ ?_ (fun hHeld2=>?_)
  ·exact Below.trans hHeld (Below.mono HB2.out (Below.size hHeld))
  clear hK K hHeld
  have hHeld:=hHeld2
  clear hHeld2
  try simp only [Act.put,ub1,ub2,ub3]
  refine ready_U (rs:=[5,18]) (by kernel_rfl) (by simp) ?_
  refine cons_U rfl (fun K hK=>?_) (cons_U rfl (fun K hK=>?_) nil_U)
  ·go_simp
   refine hK.out _ _ ?_ (fun hHeld2=>?_)
   ·exact hHeld
   clear hK K hHeld
   have hHeld:=hHeld2
   clear hHeld2
   try simp only [Act.put,ub1,ub2,ub3]
   refine take_U (i:=6) (v:=?_) rfl (by kernel_rfl) (by kernel_rfl) (by kernel_rfl) (by kernel_rfl) (fun _ _ _ h=>h) (by rfl) ?_ hHeld ?_
   rotate_left
   ·intro w hSw;obtain ⟨b0,b3,p0,p1,p2,q0,q1,q2⟩:=HC.out w hSw;go_simp;all_goals (with_reducible rfl)
   try simp only [Act.put,ub1,ub2,ub3]
   refine take_U (i:=12) (v:=?_) rfl (by kernel_rfl) (by kernel_rfl) (by kernel_rfl) (by kernel_rfl) (fun _ _ _ h=>h) (by rfl) ?_ hHeld ?_
   rotate_left
   ·intro w hSw;obtain ⟨b0,b3,p0,p1,p2,q0,q1,q2⟩:=HC.out w hSw;go_simp;all_goals (with_reducible rfl)
   try simp only [Act.put,ub1,ub2,ub3]
   refine take_U (i:=13) (v:=?_) rfl (by kernel_rfl) (by kernel_rfl) (by kernel_rfl) (by kernel_rfl) (fun _ _ _ h=>h) (by rfl) ?_ hHeld ?_
   rotate_left
   ·intro w hSw;obtain ⟨b0,b3,p0,p1,p2,q0,q1,q2⟩:=HC.out w hSw;go_simp;all_goals (with_reducible rfl)
   try simp only [Act.put,ub1,ub2,ub3]
   refine ready_U (rs:=[18]) (by kernel_rfl) (by simp) ?_
   refine cons_U rfl (fun K hK=>?_) nil_U
   go_simp
   refine (HA1.out _ hHeld).mono ?_
   rintro e w5 ⟨rfl,hb4⟩
   have HB4:=Lh hb4
   clear hb4
   have x0:=(HB4.out.cell (World.block_lt_of_cell? _ _ x0)).trans x0
   go_simp
   refine hK.out _ _ ?_ (fun hHeld2=>?_)
   ·exact Below.trans hHeld (Below.mono HB4.out (Below.size hHeld))
   clear hK K hHeld
   have hHeld:=hHeld2
   clear hHeld2
   try simp only [Act.put,ub1,ub2,ub3]
   refine take_U (i:=19) (v:=?_) rfl (by kernel_rfl) (by kernel_rfl) (by kernel_rfl) (by kernel_rfl) (fun _ _ _ h=>h) (by rfl) ?_ hHeld ?_
   rotate_left
   ·intro w hSw;obtain ⟨b0,b3,p0,p1,p2,q0,q1,q2⟩:=HC.out w hSw;go_simp;all_goals (with_reducible rfl)
   try simp only [Act.put,ub1,ub2,ub3]
   refine take_U (i:=20) (v:=?_) rfl (by kernel_rfl) (by kernel_rfl) (by kernel_rfl) (by kernel_rfl) (fun _ _ _ h=>h) (by rfl) ?_ hHeld ?_
   rotate_left
   ·intro w hSw;obtain ⟨b0,b3,p0,p1,p2,q0,q1,q2⟩:=HC.out w hSw;go_simp;all_goals (with_reducible rfl)
   try simp only [Act.put,ub1,ub2,ub3]
   refine ready_U (rs:=[21]) (by kernel_rfl) (by simp) ?_
   refine cons_V rfl (by kernel_rfl) (fun K hK=>?_) nil_U
   go_simp
   refine hK.out _ _ ?_
   clear hK K
   try simp only [Act.put,ub1,ub2,ub3]
   refine done_U (by kernel_rfl) ?_ _
   go_wp2_with fail
   go_ret
   exact ⟨rfl,HB0.out.trans (Below.mono hHeld HB0.out.size)⟩
  ·go_simp
   refine (HA1.out _ hHeld).mono ?_
   rintro e w4 ⟨rfl,hb3⟩
   have HB3:=Lh hb3
   clear hb3
   have x0:=(HB3.out.cell (World.block_lt_of_cell? _ _ x0)).trans x0
   go_simp
   refine hK.out _ _ ?_ (fun hHeld2=>?_)
   ·exact Below.trans hHeld (Below.mono HB3.out (Below.size hHeld))
   clear hK K hHeld
   have hHeld:=hHeld2
   clear hHeld2
   try simp only [Act.put,ub1,ub2,ub3]
   refine ready_U (rs:=[5]) (by kernel_rfl) (by simp) ?_
   refine cons_U rfl (fun K hK=>?_) nil_U
   go_simp
   refine hK.out _ _ ?_ (fun hHeld2=>?_)
   ·exact hHeld
   clear hK K hHeld
   have hHeld:=hHeld2
   clear hHeld2
   try simp only [Act.put,ub1,ub2,ub3]
   refine take_U (i:=6) (v:=?_) rfl (by kernel_rfl) (by kernel_rfl) (by kernel_rfl) (by kernel_rfl) (fun _ _ _ h=>h) (by rfl) ?_ hHeld ?_
   rotate_left
   ·intro w hSw;obtain ⟨b0,b3,p0,p1,p2,q0,q1,q2⟩:=HC.out w hSw;go_simp;all_goals (with_reducible rfl)
   try simp only [Act.put,ub1,ub2,ub3]
   refine take_U (i:=12) (v:=?_) rfl (by kernel_rfl) (by kernel_rfl) (by kernel_rfl) (by kernel_rfl) (fun _ _ _ h=>h) (by rfl) ?_ hHeld ?_
   rotate_left
   ·intro w hSw;obtain ⟨b0,b3,p0,p1,p2,q0,q1,q2⟩:=HC.out w hSw;go_simp;all_goals (with_reducible rfl)
   try simp only [Act.put,ub1,ub2,ub3]
   refine take_U (i:=13) (v:=?_) rfl (by kernel_rfl) (by kernel_rfl) (by kernel_rfl) (by kernel_rfl) (fun _ _ _ h=>h) (by rfl) ?_ hHeld ?_
   rotate_left
   ·intro w hSw;obtain ⟨b0,b3,p0,p1,p2,q0,q1,q2⟩:=HC.out w hSw;go_simp;all_goals (with_reducible rfl)
   try simp only [Act.put,ub1,ub2,ub3]
   refine take_U (i:=19) (v:=?_) rfl (by kernel_rfl) (by kernel_rfl) (by kernel_rfl) (by kernel_rfl) (fun _ _ _ h=>h) (by rfl) ?_ hHeld ?_
   rotate_left
   ·intro w hSw;obtain ⟨b0,b3,p0,p1,p2,q0,q1,q2⟩:=HC.out w hSw;go_simp;all_goals (with_reducible rfl)
   try simp only [Act.put,ub1,ub2,ub3]
   refine take_U (i:=20) (v:=?_) rfl (by kernel_rfl) (by kernel_rfl) (by kernel_rfl) (by kernel_rfl) (fun _ _ _ h=>h) (by rfl) ?_ hHeld ?_
   rotate_left
   ·intro w hSw;obtain ⟨b0,b3,p0,p1,p2,q0,q1,q2⟩:=HC.out w hSw;go_simp;all_goals (with_reducible rfl)
   try simp only [Act.put,ub1,ub2,ub3]
   refine ready_U (rs:=[21]) (by kernel_rfl) (by simp) ?_
   refine cons_V rfl (by kernel_rfl) (fun K hK=>?_) nil_U
   go_simp
   refine hK.out _ _ ?_
   clear hK K
   try simp only [Act.put,ub1,ub2,ub3]
   refine done_U (by kernel_rfl) ?_ _
   go_wp2_with fail
   go_ret
   exact ⟨rfl,HB0.out.trans (Below.mono hHeld HB0.out.size)⟩
theorem rtext_10 (g:Frm) (hG:TextOk g):TextOk (.mk 10 [] 0 [] [] [g]):=by
 intro x w hx hlen
 have e:txtF (.mk 10 [] 0 [] [] [g])=[33]++txtIn g 4:=by rw [txtF_nil];simp [txtAt,txtIn]
 rw [e] at hlen
 simp only [List.length_append,List.length_cons,List.length_nil] at hlen
 obtain ⟨hla,hlb⟩:x.l.a=some ⟨x.l.b,x.l.o,none⟩/\x.l.b<w.heap.size:=by have:=hx.l.at_ (by simp [Frm.l]);exact this
 rw [hla]
 clear hla
 obtain ⟨W0,hW0⟩:∃ W0,W0=w.alloc (.cells #[.int .i64 10,.string ⟨#[]⟩,.int .i64 0,.slice x.t.a 0 x.t.cap,.slice x.b.a 0 x.b.cap,.slice (some ⟨x.l.b,x.l.o,none⟩) 1 x.l.cap] 28):=⟨_,rfl⟩
 obtain ⟨B,hB⟩:∃ B,B=w.heap.size:=⟨_,rfl⟩
 have hb0:Below w.heap.size w W0:=by rw [hW0];exact below_new _ _
 have hk:=heap_alloc_new w (.cells #[.int .i64 10,.string ⟨#[]⟩,.int .i64 0,.slice x.t.a 0 x.t.cap,.slice x.b.a 0 x.b.cap,.slice (some ⟨x.l.b,x.l.o,none⟩) 1 x.l.cap] 28)
 rw [<- hW0,<- hB] at hk
 have HB0:=Lh hb0
 have HW:=Lh (aI hW0 hB)
 have hLB:∀ W,Below W0.heap.size W0 W->Below w.heap.size w W:=fun W hW=>hb0.trans (hW.mono hb0.size)
 obtain ⟨y0,hy0,hc0⟩:∃ y,FrmIn w (·<w.heap.size) g y/\CellsAt w x.l.b (x.l.o+0) (y.cells g):=hx.l.frm 0 (by simp [Frm.l])
 obtain ⟨p0,p1,p2,p3,p4,p5⟩:=CellsAt.six hc0
 have hg1:=txtIn_ge g 4
 have HA0:Hid (∀ W,Below W0.heap.size W0 W->Calls Tryz.prog 92 #[.agg #[.int .i64 g.kind,.string ⟨g.name.toArray⟩,.int .i64 g.n,.slice y0.t.a g.terms.length y0.t.cap,.slice y0.b.a g.binds.length y0.b.cap,.slice y0.l.a g.l.length y0.l.cap],.int .i64 3] W fun e w'=>e=.returned (.string ⟨(txtIn g 4).toArray⟩)/\Below W.heap.size W w'):=Lh (fun W hW=>rat_any g hG y0 W (hy0.later (hLB W hW) (hLB W hW).size) 3 (by omega) (by omega))
 generalize txtIn g 4=a0 at e hlen hg1 HA0
 have z0:w.cell? ⟨x.l.b,x.l.o,none⟩=some (.int .i64 g.kind):=by simpa using p0
 have z1:w.cell? ⟨x.l.b,x.l.o+1,none⟩=some (.string ⟨g.name.toArray⟩):=by simpa using p1
 have z2:w.cell? ⟨x.l.b,x.l.o+2,none⟩=some (.int .i64 g.n):=by simpa using p2
 have z3:w.cell? ⟨x.l.b,x.l.o+3,none⟩=some (.slice y0.t.a g.terms.length y0.t.cap):=by simpa using p3
 have z4:w.cell? ⟨x.l.b,x.l.o+4,none⟩=some (.slice y0.b.a g.binds.length y0.b.cap):=by simpa using p4
 have z5:w.cell? ⟨x.l.b,x.l.o+5,none⟩=some (.slice y0.l.a g.l.length y0.l.cap):=by simpa using p5
 have HC:Hid (∀ W,Below W0.heap.size W0 W->W.cell? ⟨B,5,none⟩=some (.slice (some ⟨x.l.b,x.l.o,none⟩) 1 x.l.cap)/\W.cell? ⟨x.l.b,x.l.o,none⟩=some (.int .i64 g.kind)/\W.cell? ⟨x.l.b,x.l.o+1,none⟩=some (.string ⟨g.name.toArray⟩)/\W.cell? ⟨x.l.b,x.l.o+2,none⟩=some (.int .i64 g.n)/\W.cell? ⟨x.l.b,x.l.o+3,none⟩=some (.slice y0.t.a g.terms.length y0.t.cap)/\W.cell? ⟨x.l.b,x.l.o+4,none⟩=some (.slice y0.b.a g.binds.length y0.b.cap)/\W.cell? ⟨x.l.b,x.l.o+5,none⟩=some (.slice y0.l.a g.l.length y0.l.cap)):=Lh (fun W hW=>by
  have k1:=(hW.block B (gS hk).1).trans hk
  have hlow:=hLB W hW
  exact ⟨cH k1 rfl,(hlow.cell (p:=⟨x.l.b,x.l.o,none⟩) hlb).trans (by simpa using p0),(hlow.cell (p:=⟨x.l.b,x.l.o+1,none⟩) hlb).trans (by simpa using p1),(hlow.cell (p:=⟨x.l.b,x.l.o+2,none⟩) hlb).trans (by simpa using p2),(hlow.cell (p:=⟨x.l.b,x.l.o+3,none⟩) hlb).trans (by simpa using p3),(hlow.cell (p:=⟨x.l.b,x.l.o+4,none⟩) hlb).trans (by simpa using p4),(hlow.cell (p:=⟨x.l.b,x.l.o+5,none⟩) hlb).trans (by simpa using p5)⟩)
 obtain ⟨s1,hs1⟩:∃ s1,33 :: a0=s1:=⟨_,rfl⟩
 have ls1:s1.length=1+a0.length:=by rw [<- hs1];simp <;> omega
 have gs1:¬ 9223372036854775807<1+a0.length:=by omega
 have hfin:txtF (.mk 10 [] 0 [] [] [g])=s1:=by rw [e,<- hs1];simp
 simp only [Frm.kind,Frm.name,Frm.n,Frm.terms,Frm.binds,Frm.l,List.length_cons,List.length_nil] at ⊢
 rw [hfin]
 clear hW0 hB hk hb0 hx e hlen hfin hLB ls1 hG hc0 hy0 hg1 p0 p1 p2 p3 p4 p5
 go_enter Tryz.func46,Tryz.ntmps46
 go_wp2_with fail
 rw [<- HW.out.1,<- HW.out.2]
 refine (HA0.out _ (Below.refl _ _)).mono ?_
 rintro e w1 ⟨rfl,hb1⟩
 have HB1:=Lh hb1
 clear hb1
 go_wp2_with fail
 go_ret
 exact ⟨rfl,HB0.out.trans (HB1.out.mono HB0.out.size)⟩
theorem rtext_1:TextOk (.mk 1 [] 0 [] [] []):=by
 intro x w hx _
 have HB:=Lh (below_new w (.cells #[.int .i64 1,.string ⟨#[]⟩,.int .i64 0,.slice x.t.a 0 x.t.cap,.slice x.b.a 0 x.b.cap,.slice x.l.a 0 x.l.cap] 28))
 have e:txtF (.mk 1 [] 0 [] [] [])=[116,114,117,101]:=by rw [txtF_nil];rfl
 simp only [Frm.kind,Frm.name,Frm.n,Frm.terms,Frm.binds,Frm.l,List.length_nil]
 rw [e]
 clear hx e
 go_enter Tryz.func46,Tryz.ntmps46
 go_wp2_with fail
 go_ret
 exact ⟨rfl,HB.out⟩
theorem rtext_2:TextOk (.mk 2 [] 0 [] [] []):=by
 intro x w hx _
 have HB:=Lh (below_new w (.cells #[.int .i64 2,.string ⟨#[]⟩,.int .i64 0,.slice x.t.a 0 x.t.cap,.slice x.b.a 0 x.b.cap,.slice x.l.a 0 x.l.cap] 28))
 have e:txtF (.mk 2 [] 0 [] [] [])=[102,97,108,115,101]:=by rw [txtF_nil];rfl
 simp only [Frm.kind,Frm.name,Frm.n,Frm.terms,Frm.binds,Frm.l,List.length_nil]
 rw [e]
 clear hx e
 go_enter Tryz.func46,Tryz.ntmps46
 go_wp2_with fail
 go_ret
 exact ⟨rfl,HB.out⟩
end Go.Proofs.YtpmalchlecnjbaaGreatDoor
/- The reference's text of a well-formed formula; its Text. -/
namespace Go.Proofs.YtpmalchlecnjbaaGreatDoor
open Go.RowKit Go.Chalk
attribute [local go_sem] Oper.semAt_some
theorem rtext_any:∀ g,wf g->TextOk g:=by
 refine wf_ind ?_ ?_ ?_ ?_ ?_ ?_
 ·rintro k (rfl | rfl)
  ·exact rtext_1
  ·exact rtext_2
 ·intro k a b h1 h2 ha hb
  exact rtext_atom (k - 3).toNat (by omega) k (by omega) ⟨2,a,0⟩ ⟨2,b,0⟩ (by simp [termedF,ha]) (by simp [termedF,hb])
 ·intro s t u _ ht hu
  exact rtext_9 s t u ht hu
 ·intro g _ ih
  exact rtext_10 g ih
 ·intro k g g' h1 h2 _ _ ih1 ih2
  have:k=11∨k=12∨k=13:=by omega
  rcases this with rfl | rfl | rfl
  ·exact rtext_11 g g' ih1 ih2
  ·exact rtext_12 g g' ih1 ih2
  ·exact rtext_13 g g' ih1 ih2
 ·intro k n b bs g h1 h2 hn hm hz hl hb hbs _ ih
  have hbl:(b :: bs).length<=6:=by simp;omega
  have hbo:(b :: bs).all bndOk=true:=by simp [hb];simpa using hbs
  have:k=14∨k=15∨k=16∨k=17:=by omega
  obtain ⟨m,rfl⟩:=Int.eq_ofNat_of_zero_le hn
  rcases this with rfl | rfl | rfl | rfl
  ·exact rtext_14 _ _ g ih hbl hbo
  ·exact rtext_15 _ _ g ih hbl hbo
  ·exact rtext_16 m (by omega) _ g ih hbl hbo
  ·exact rtext_17 m (by omega) _ g ih hbl hbo
end Go.Proofs.YtpmalchlecnjbaaGreatDoor
/- The reference's Reserved. (written by tools/gen_rxh.py) -/
namespace Go.Chalk
def resL:List Bs:=[[104,97,114,100],[115,111,102,116],[101,97,99,104],[97,108,108],[115,111,109,101],[108,101,97,115,116],[109,111,115,116],[116,114,117,101],[102,97,108,115,101],[97,116],[105,110],[116,101,97,99,104,101,115],[97,116,116,101,110,100,115],[97,119,97,121],[115,104,117,116],[100,97,121],[104,111,117,114],[104,111,117,115,101],[115,101,97,116,115],[115,105,122,101],[108,101,115,115,111,110],[115,108,111,116],[114,111,111,109],[112,101,114,115,111,110],[103,114,111,117,112]]
end Go.Chalk
namespace Go.Proofs.YtpmalchlecnjbaaGreatDoor
open Go.RowKit Go.Chalk
attribute [local go_sem] Oper.semAt_some
theorem reserved5_any (s:Bs) (w:World):Calls Tryz.prog 161 #[.string ⟨s.toArray⟩] w fun e w'=>e=.returned (.bool (resL.any (fun x=>x==s)))/\Below w.heap.size w w':=by
 obtain ⟨W0,hW0⟩:∃ W0,W0=w.alloc (.cells #[.string ⟨#[104,97,114,100]⟩,.string ⟨#[115,111,102,116]⟩,.string ⟨#[101,97,99,104]⟩,.string ⟨#[97,108,108]⟩,.string ⟨#[115,111,109,101]⟩,.string ⟨#[108,101,97,115,116]⟩,.string ⟨#[109,111,115,116]⟩,.string ⟨#[116,114,117,101]⟩,.string ⟨#[102,97,108,115,101]⟩,.string ⟨#[97,116]⟩,.string ⟨#[105,110]⟩,.string ⟨#[116,101,97,99,104,101,115]⟩,.string ⟨#[97,116,116,101,110,100,115]⟩,.string ⟨#[97,119,97,121]⟩,.string ⟨#[115,104,117,116]⟩,.string ⟨#[100,97,121]⟩,.string ⟨#[104,111,117,114]⟩,.string ⟨#[104,111,117,115,101]⟩,.string ⟨#[115,101,97,116,115]⟩,.string ⟨#[115,105,122,101]⟩,.string ⟨#[108,101,115,115,111,110]⟩,.string ⟨#[115,108,111,116]⟩,.string ⟨#[114,111,111,109]⟩,.string ⟨#[112,101,114,115,111,110]⟩,.string ⟨#[103,114,111,117,112]⟩] 9):=⟨_,rfl⟩
 obtain ⟨B,hB⟩:∃ B,B=w.heap.size:=⟨_,rfl⟩
 have hb0:Below w.heap.size w W0:=by rw [hW0];exact below_new _ _
 have hk:=heap_alloc_new w (.cells #[.string ⟨#[104,97,114,100]⟩,.string ⟨#[115,111,102,116]⟩,.string ⟨#[101,97,99,104]⟩,.string ⟨#[97,108,108]⟩,.string ⟨#[115,111,109,101]⟩,.string ⟨#[108,101,97,115,116]⟩,.string ⟨#[109,111,115,116]⟩,.string ⟨#[116,114,117,101]⟩,.string ⟨#[102,97,108,115,101]⟩,.string ⟨#[97,116]⟩,.string ⟨#[105,110]⟩,.string ⟨#[116,101,97,99,104,101,115]⟩,.string ⟨#[97,116,116,101,110,100,115]⟩,.string ⟨#[97,119,97,121]⟩,.string ⟨#[115,104,117,116]⟩,.string ⟨#[100,97,121]⟩,.string ⟨#[104,111,117,114]⟩,.string ⟨#[104,111,117,115,101]⟩,.string ⟨#[115,101,97,116,115]⟩,.string ⟨#[115,105,122,101]⟩,.string ⟨#[108,101,115,115,111,110]⟩,.string ⟨#[115,108,111,116]⟩,.string ⟨#[114,111,111,109]⟩,.string ⟨#[112,101,114,115,111,110]⟩,.string ⟨#[103,114,111,117,112]⟩] 9)
 rw [<- hW0,<- hB] at hk
 have hlt:B<W0.heap.size:=(gS hk).1
 have HCL:Hid (∀ j (h:j<resL.length),W0.cell? ⟨B,j,none⟩=some (.string ⟨resL[j].toArray⟩)):=Lh (fun j h=>by
  have h2:j<25:=h
  have h3:j=0∨j=1∨j=2∨j=3∨j=4∨j=5∨j=6∨j=7∨j=8∨j=9∨j=10∨j=11∨j=12∨j=13∨j=14∨j=15∨j=16∨j=17∨j=18∨j=19∨j=20∨j=21∨j=22∨j=23∨j=24:=by omega
  rcases h3 with rfl | rfl | rfl | rfl | rfl | rfl | rfl | rfl | rfl | rfl | rfl | rfl | rfl | rfl | rfl | rfl | rfl | rfl | rfl | rfl | rfl | rfl | rfl | rfl | rfl <;> exact cH hk rfl)
 have HB0:=Lh hb0
 have HW:=Lh (aI hW0 hB)
 have HLT:=Lh hlt
 have hn:resL.length=25:=rfl
 obtain ⟨R,hR⟩:∃ R,R=resL.any (fun x=>x==s):=⟨_,rfl⟩
 rw [<- hR]
 have HR:=Lh hR
 have HNX:Hid (∀ j (h:j<resL.length),(resL.take (j+1)).any (fun x=>x==s)=((resL.take j).any (fun x=>x==s)||(resL[j]==s))):=Lh (fun j h=>by rw [List.take_succ_eq_append_getElem h,List.any_append];simp)
 have HSUB:Hid (∀ j (h:j<resL.length),(resL[j]==s)=true->R=true):=Lh (fun j h h2=>by rw [hR];exact List.any_eq_true.2 ⟨_,List.getElem_mem h,h2⟩)
 generalize resL=rl at *
 clear hW0 hB hb0 hk hlt hR
 go_enter Tryz.func161,Tryz.ntmps161
 go_wp2_with fail
 rw [<- HW.out.1,<- HW.out.2]
 go_loopw [7] (fun i wr=>∃ j:Nat,j<=25/\i=.int .i64 j/\Hid ((rl.take j).any (fun x=>x==s)=false)/\Hid (Below W0.heap.size W0 wr)) (fun i _=>25 - (intOf i).toNat)
 case atStart=>exact ⟨0,by omega,rfl,Lh rfl,Lh (Below.refl _ _)⟩
 case round =>
  obtain ⟨j,hj,rfl,HA,HB⟩:=hrel
  by_cases hlt:j<25
  ·have hjl:j<rl.length:=by omega
   have x0:=(HB.out.cell (p:=⟨B,j,none⟩) HLT.out).trans (HCL.out j hjl)
   have hnx:=HNX.out j hjl
   have hsub:=HSUB.out j hjl
   rw [HA.out,Bool.false_or] at hnx
   generalize rl[j]=xt at *
   by_cases hx:(xt==s)=true
   ·have hr:=hsub hx
    subst hr
    clear hsub hnx
    go_wp2_with fail
    go_ret
    exact ⟨rfl,HB0.out.trans (HB.out.mono HB0.out.size)⟩
   ·have hx2:(xt==s)=false:=by simpa using hx
    rw [hx2] at hnx
    have HN2:=Lh hnx
    clear hsub hnx hx
    go_wp2_with fail
    exact ⟨⟨j+1,by omega,by go_num,HN2,HB⟩,by simp [intOf];omega⟩
  ·have hjn:j=rl.length:=by omega
   have ha:=HA.out
   rw [hjn,List.take_length,<- HR.out] at ha
   subst ha
   have hbd:=HB0.out.trans (HB.out.mono HB0.out.size)
   clear HA hjn HR
   go_wp2_with fail
   go_ret
   exact ⟨rfl,hbd⟩
end Go.Proofs.YtpmalchlecnjbaaGreatDoor
/- The reference's Name. -/
namespace Go.Chalk
theorem resL_eq (s:Bs):resL.any (fun x=>x==s)=reservedL.contains s:=by
 have h:resL=reservedL:=by decide
 rw [h,Bool.eq_iff_iff,List.any_eq_true,List.contains_iff_mem]
 constructor
 ·rintro ⟨x,hx,he⟩
  rw [<- (beq_iff_eq.1 he)];exact hx
 ·intro hx
  exact ⟨s,hx,by simp⟩
end Go.Chalk
namespace Go.Proofs.YtpmalchlecnjbaaGreatDoor
open Go.RowKit Go.Chalk
attribute [local go_sem] Oper.semAt_some
theorem rname_any (s:Bs) (w:World) (hs:s.length<=281474976710656):Calls Tryz.prog 124 #[.string ⟨s.toArray⟩] w fun e w'=>e=.returned (.bool (nameB s))/\Below w.heap.size w w':=by
 have HWD:=Lh (fun W=>wordR_any ⟨s.toArray⟩ W (by rw [size_mk];exact hs))
 have HRS:=Lh (fun W=>reserved5_any s W)
 rw [resL_eq] at HRS
 obtain ⟨b,hb⟩:∃ b,b=wordB s:=⟨_,rfl⟩
 obtain ⟨c,hc⟩:∃ c,c=reservedL.contains s:=⟨_,rfl⟩
 have hn:nameB s=(b&&!c):=by rw [hb,hc];rfl
 have HWD2:Hid (∀ W,Calls Tryz.prog 134 #[.string ⟨s.toArray⟩] W fun e w'=>e=.returned (.bool b)/\w'=W):=Lh (fun W=>by rw [hb];exact HWD.out W)
 rw [<- hc] at HRS
 rw [hn]
 clear HWD hb hc hn hs
 cases b
 ·go_enter Tryz.func124,Tryz.ntmps124
  go_wp2_with fail
  refine (HWD2.out _).mono ?_
  rintro e w1 ⟨rfl,rfl⟩
  go_wp2_with fail
  go_ret
  exact ⟨rfl,Below.refl _ _⟩
 ·go_enter Tryz.func124,Tryz.ntmps124
  go_wp2_with fail
  refine (HWD2.out _).mono ?_
  rintro e w1 ⟨rfl,rfl⟩
  go_wp2_with fail
  refine (HRS.out _).mono ?_
  rintro e w2 ⟨rfl,hb⟩
  have HB:=Lh hb
  clear hb
  go_wp2_with fail
  go_ret
  exact ⟨rfl,HB.out⟩
end Go.Proofs.YtpmalchlecnjbaaGreatDoor
