/- Joined texts: GOneP, GNotP, GHoldP, WGHold, WGOne, KitG, RightK, RightL. -/
import Derived.Test.YtjjkfgjnadaheaaGreatDoorB35
import Derived.Test.YtjjkfgjnadaheaaGreatDoorB07
import Derived.Test.YtjjkfgjnadaheaaGreatDoorB06
import Derived.Test.YtjjkfgjnadaheaaGreatDoorB37
import Derived.Test.YtjjkfgjnadaheaaGreatDoorB34
import Derived.Test.YtjjkfgjnadaheaaGreatDoorB27
import Derived.Test.YtjjkfgjnadaheaaGreatDoorB14
import Derived.Deep.RegionHeld3
import Derived.Test.YtjjkfgjnadaheaaGreatDoorB30
set_option maxRecDepth 100000
set_option linter.unusedVariables false
set_option linter.unusedSimpArgs false
/- GroundOne: the plain law. -/
namespace Go.Chalk
open Go.RowKit
theorem gTree_good {s:Schl} {env:List Ev} {f:Frm} (h:(gTreeF s env f).2=0):HoldsOk s (firstW s) env f/\gTreeF s env f=(gtF s env f,0)/\(gtF s env f).size<=65536:=by
 revert h
 unfold gTreeF
 split
 ·rename_i h;exact fun h0=>absurd h0 h
 split
 ·rename_i h1 h2;exact fun _=>⟨evHolds_ok.1 (Decidable.byContradiction h1),rfl,h2⟩
 ·intro h;cases h
theorem wkTrue_good {s:Schl} {l:List Plc} (h:(wkTrueF s l).2=0):weekCheck s l=0/\wkTrueF s l=(trueK s l l.length,0):=by
 revert h
 unfold wkTrueF
 split
 ·rename_i h;exact fun h0=>absurd h0 h
 ·rename_i h;exact fun _=>⟨Decidable.byContradiction h,rfl⟩
end Go.Chalk
/- GroundNots: the plain law. -/
namespace Go.Chalk
open Go.RowKit
theorem gnots_plain (s:Schl) (l:List Plc) (env:List Ev) (f:Frm) :
  ((gTreeF s env f).2=0->(gTreeF s env f).1.size<=65536/\(nnfF f).2=0 /\
   ((gTreeF s env (nnfF f).1).2=2∨((gTreeF s env (nnfF f).1).2=0/\(gTreeF s env (nnfF f).1).1.size<=65536/\((wkTrueF s l).2=0->valG (gTreeF s env f).1 (wkTrueF s l).1=valG (gTreeF s env (nnfF f).1).1 (wkTrueF s l).1)))):=by
 intro h
 obtain ⟨ho,e1,e2⟩:=gTree_good h
 have hs:=school_count (week_school ho.week)
 have hc:frmCheck f=0:=frmCheck_zero.2 ⟨ho.formed,ho.size,ho.depth⟩
 have en:nnfF f=(rightF f false,0):=by unfold nnfF;rw [hc];simp
 rw [e1,en]
 refine ⟨e2,rfl,?_⟩
 obtain ⟨r1,r2,r3⟩:=right_main s hs f ho.formed false
 have hor:=evHolds_or ho.week ho.may r1 (r2 _ ho.walk)
 by_cases h0:(gTreeF s env (rightF f false)).2=0
 ·obtain ⟨go,g1,g2⟩:=gTree_good h0
  right
  rw [g1]
  refine ⟨rfl,g2,fun hw=>?_⟩
  obtain ⟨hw1,hw2⟩:=wkTrue_good hw
  rw [hw2]
  have ta:=trueW_true hw1
  simp only
  rw [gt_val s l _ ta ho.week f.size f env (Nat.le_refl _) (ho.week_swap hw1),gt_val s l _ ta ho.week _ (rightF f false) env (Nat.le_refl _) (go.week_swap hw1),r3]
  simp
 ·left
  unfold gTreeF at h0 ⊢
  rcases hor with ⟨_,_,_,e⟩ | ⟨_,e⟩
  ·rw [e] at h0 ⊢
   simp only [ne_eq,not_true_eq_false,if_false] at h0 ⊢
   split
   ·rename_i h3;rw [if_pos h3] at h0;exact absurd rfl h0
   ·rfl
  ·rw [e];rfl
end Go.Chalk
/- GroundHolds: the plain law. -/
namespace Go.Chalk
open Go.RowKit
end Go.Chalk
/- GroundHolds: where the listed variables hold what their text lays, the law returns true. -/
namespace Go.Proofs.YtjjkfgjnadaheaaGreatDoor
open Go.RowKit Go.Chalk
theorem wkTrueF_len (s:Schl) (l:List Plc):(wkTrueF s l).1.length<=2000000:=by
 unfold wkTrueF
 split
 ·simp
 ·rename_i h
  have h0:weekCheck s l=0:=Classical.byContradiction h
  have hs:schCheck s=0:=by
   unfold weekCheck at h0
   split at h0
   ·rename_i h1;exact absurd h0 h1
   ·rename_i h1;exact Classical.byContradiction h1
  show (trueK s l l.length).length<=_
  rw [trueK_len];have:=vars_small hs;omega

end Go.Proofs.YtjjkfgjnadaheaaGreatDoor
/- GroundOne: where the listed variables hold what their text lays, the law returns true. -/
namespace Go.Chalk
open Go.RowKit
end Go.Chalk
namespace Go.Proofs.YtjjkfgjnadaheaaGreatDoor
open Go.RowKit Go.Chalk
end Go.Proofs.YtjjkfgjnadaheaaGreatDoor
/- What Nnf's walk shares with the law's helpers (Ground seat: in Kit's place). -/
namespace Go.Chalk
end Go.Chalk
namespace Go.Chalk
open Go.RowKit
end Go.Chalk
namespace Go.Proofs.YtjjkfgjnadaheaaGreatDoor
open Go.RowKit Go.Chalk
theorem i64_of {n:Int} (h : -1000<=n/\n<=1000):I64 n:=by unfold I64;omega
theorem WkBox.below {W W':World} {b:Nat} {v:Value} {t:TypeId} (h:W.heap[b]?=some (.cells #[v] t (0,0))) (hb:Below W.heap.size W W'):W'.heap[b]?=some (.cells #[v] t (0,0)):=(hb.block _ (gS h).1).trans h
end Go.Proofs.YtjjkfgjnadaheaaGreatDoor
/- Ahead of formula.right: stores of six cells, always, the parts of a formula. -/
namespace Go.Chalk
open Go.RowKit
def Nw (B:Nat) (w w':World) (k:Nat):Prop:=(k<B∨w.heap.size<=k)/\k<w'.heap.size
def put6 (W:World) (H:Nat) (c0 c1 c2 c3 c4 c5:Value):World:=(((((W.setCell ⟨H,0,none⟩ c0).setCell ⟨H,1,none⟩ c1).setCell ⟨H,2,none⟩ c2).setCell ⟨H,3,none⟩ c3).setCell ⟨H,4,none⟩ c4).setCell ⟨H,5,none⟩ c5
theorem put6_mod (W:World) (H:Nat) (c0 c1 c2 c3 c4 c5:Value):Mod (fun k=>k=H) W (put6 W H c0 c1 c2 c3 c4 c5) :=
 ((((((Mod.refl (fun k=>k=H) W).setCell (p:=⟨H,0,none⟩) (fun _=>rfl) c0).setCell (p:=⟨H,1,none⟩) (fun _=>rfl) c1).setCell (p:=⟨H,2,none⟩) (fun _=>rfl) c2).setCell (p:=⟨H,3,none⟩) (fun _=>rfl) c3).setCell (p:=⟨H,4,none⟩) (fun _=>rfl) c4).setCell (p:=⟨H,5,none⟩) (fun _=>rfl) c5
theorem put6_size (W:World) (H:Nat) (c0 c1 c2 c3 c4 c5:Value):(put6 W H c0 c1 c2 c3 c4 c5).heap.size=W.heap.size:=by simp [put6]
theorem put6_fin {w W:World} {B H:Nat} {G:Nat->Prop} {f:Frm} {u:FrmA} {c0 c1 c2 c3 c4 c5:Value} (hb:Below w.heap.size w W) (hH:w.heap.size<=H) (hu:FrmIn W G f u) (hG:¬ G H) (hGP:∀ k,G k->Nw B w W k) :
  FrmIn (put6 W H c0 c1 c2 c3 c4 c5) (Nw B w (put6 W H c0 c1 c2 c3 c4 c5)) f u/\Below w.heap.size w (put6 W H c0 c1 c2 c3 c4 c5) :=
 ⟨(hu.agree ((put6_mod W H c0 c1 c2 c3 c4 c5).agree (fun k hk=>⟨(hGP k hk).2,fun e=>hG (e ▸ hk)⟩))).mono (fun k hk=>by have:=hGP k hk;unfold Nw at this ⊢;rwa [put6_size]),
  hb.trans ((put6_mod W H c0 c1 c2 c3 c4 c5).below hb.size (fun k e=>by omega))⟩
theorem leaf_in (w:World) (k:Int) (hk:I64 k):FrmIn w (fun _=>False) (.mk k [] 0 [] [] []) ⟨⟨none,0,0,0⟩,⟨none,0,0,0⟩,⟨none,0,0,0⟩⟩ :=
 ⟨hk,Nat.zero_le _,(show I64 0 by unfold I64;omega),SlIn.nil (Nat.zero_le _) _ _ _,SlIn.nil (Nat.zero_le _) _ _ _,SlIn.nil (Nat.zero_le _) _ _ _⟩
theorem rightL_length:∀ (l:List Frm) (t:Bool),(rightL l t).length=l.length
 | [],_=>by rw [rightL]
 | f :: r,t=>by rw [rightL,List.length_cons,rightL_length r t,List.length_cons]
theorem rightL_take:∀ (l:List Frm) (t:Bool) (j:Nat) (h:j<l.length),(rightL l t).take (j+1)=(rightL l t).take j++[rightF l[j] t]
 | [],_,_,h=>by simp at h
 | f :: r,t,0,_=>by rw [rightL];simp
 | f :: r,t,j+1,h=>by
  rw [rightL,List.take_succ_cons,List.take_succ_cons,rightL_take r t j (by simpa using h)];rfl
theorem nodesL_mem {l:List Frm} {j:Nat} (hj:j<l.length):∀ g∈nodesF l[j],g∈nodesL l:=by
 induction l generalizing j with
 | nil=>simp at hj
 | cons x r ih =>
  intro g hg
  rw [nodesL,List.mem_append]
  cases j with
  | zero=>exact .inl hg
  | succ j=>exact .inr (ih (by simpa using hj) g hg)
end Go.Chalk
namespace Go.Proofs.YtjjkfgjnadaheaaGreatDoor
open Go.RowKit Go.Chalk
def RPost (B:Nat) (w:World) (r:Frm) (e:Ending) (w':World):Prop:=∃ u:FrmA,e=.returned (ndV (r,u))/\FrmIn w' (Nw B w w') r u/\Below w.heap.size w w'
theorem RPost.of {B:Nat} {w w':World} {r:Frm} {e:Ending} {u:FrmA} (h1:e=.returned (ndV (r,u))) (h2:FrmIn w' (Nw B w w') r u/\Below w.heap.size w w'):RPost B w r e w':=⟨u,h1,h2⟩
def Pair13 (B:Nat) (w2:World) (r0 r1:Frm) (p:Value) (W:World):Prop:=∃ (b5:Nat) (u:SlA),p=.pointer (some ⟨b5,0,none⟩)/\w2.heap.size<=b5/\Below w2.heap.size w2 W/\W.heap[b5]?=some (.cells #[.int .i64 12,.string ⟨#[]⟩,.int .i64 0,.slice none 0 0,.slice none 0 0,.slice u.a 2 u.cap] 34 (0,0))/\SlIn W (fun k=>Nw B w2 W k/\k ≠ b5) ([r0,r1].map Frm.toD) u
theorem put6_heap {W:World} {H:Nat} {c0 c1 c2 c3 c4 c5 z0 z1 z2 z3 z4 z5:Value} {T:TypeId} {fz:Nat×Nat} (h:W.heap[H]?=some (.cells #[z0,z1,z2,z3,z4,z5] T fz)):(put6 W H c0 c1 c2 c3 c4 c5).heap[H]?=some (.cells #[c0,c1,c2,c3,c4,c5] T fz):=by
 unfold put6
 exact box_store c5 (box_store c4 (box_store c3 (box_store c2 (box_store c1 (box_store c0 h)))))
theorem put6_facts {w4:World} {b5:Nat} {row:Array Value} {T2 T:TypeId} {c0 c1 c2 c3 c4 c5 z0 z1 z2 z3 z4 z5:Value} (hb:b5<w4.heap.size) (hz:w4.heap[b5]?=some (.cells #[z0,z1,z2,z3,z4,z5] T (0,0))) :
  Chalk.Mod (fun k=>k=b5) w4 ((put6 w4 b5 c0 c1 c2 c3 c4 c5).alloc (.cells row T2))/\((put6 w4 b5 c0 c1 c2 c3 c4 c5).alloc (.cells row T2)).heap[w4.heap.size]?=some (.cells row T2 (0,0))/\((put6 w4 b5 c0 c1 c2 c3 c4 c5).alloc (.cells row T2)).heap[b5]?=some (.cells #[c0,c1,c2,c3,c4,c5] T (0,0)):=by
 have hs:=put6_size w4 b5 c0 c1 c2 c3 c4 c5
 refine ⟨(put6_mod w4 b5 c0 c1 c2 c3 c4 c5).alloc _,?_,?_⟩
 ·rw [heap_get,if_pos hs.symm]
 ·rw [heap_get,if_neg (by omega)]
  exact put6_heap hz
theorem put6_eq (W:World) (H:Nat) (c0 c1 c2 c3 c4 c5:Value):(((((W.setCell ⟨H,0,none⟩ c0).setCell ⟨H,1,none⟩ c1).setCell ⟨H,2,none⟩ c2).setCell ⟨H,3,none⟩ c3).setCell ⟨H,4,none⟩ c4).setCell ⟨H,5,none⟩ c5=put6 W H c0 c1 c2 c3 c4 c5:=rfl
theorem pair13_of {B:Nat} {w2 Wa w3 Wb w4 W:World} {r0 r1:Frm} {u3 u4:FrmA} {b5 bl:Nat} (hB:B<=w2.heap.size) (hWa:w2.heap.size<=Wa.heap.size) (hWb:w2.heap.size<=Wb.heap.size) (h24:w2.heap.size<=w4.heap.size) (h3:FrmIn w3 (Nw B Wa w3) r0 u3) (hb34:Below w3.heap.size w3 w4) (h4:FrmIn w4 (Nw B Wb w4) r1 u4)
  (hA:b5<Wa.heap.size∨w3.heap.size<=b5) (hBb:b5<Wb.heap.size∨w4.heap.size<=b5) (hb5:w2.heap.size<=b5) (h2W:Below w2.heap.size w2 W) (h4W:Chalk.Mod (fun k=>k=b5) w4 W) (hrow:W.heap[bl]?=some (.cells (u3.cells r0++u4.cells r1).toArray 34 (0,0))) (hbl:w4.heap.size<=bl) (hne:bl ≠ b5)
  (hcell:W.heap[b5]?=some (.cells #[.int .i64 12,.string ⟨#[]⟩,.int .i64 0,.slice none 0 0,.slice none 0 0,.slice (some ⟨bl,0,none⟩) 2 2] 34 (0,0))):Pair13 B w2 r0 r1 (.pointer (some ⟨b5,0,none⟩)) W:=by
 have z34:=hb34.size
 have z4W:=h4W.size
 have zbl:=(gS hrow).1
 refine ⟨b5,⟨some ⟨bl,0,none⟩,bl,0,2⟩,rfl,hb5,h2W,hcell,⟨fun _=>⟨rfl,⟨.inr (show w2.heap.size<=bl by omega),zbl⟩,hne⟩,by simp,(by show 2<=maxLen;decide),?_⟩⟩
 have g3:FrmIn W (fun k=>Nw B w2 W k/\k ≠ b5) r0 u3:=(h3.agree (fun k hk=>by
  have h1:=hk.2
  have h2:k ≠ b5:=by have:=hk.1;omega
  exact (h4W.block k (by omega) h2).trans (hb34.block k h1))).mono (fun k hk=>⟨⟨hk.1.imp id (fun h=>by omega),by have:=hk.2;omega⟩,by have:=hk.1;have:=hk.2;omega⟩)
 have g4:FrmIn W (fun k=>Nw B w2 W k/\k ≠ b5) r1 u4:=(h4.agree (fun k hk=>by
  have h1:=hk.2
  have h2:k ≠ b5:=by have:=hk.1;omega
  exact h4W.block k h1 h2)).mono (fun k hk=>⟨⟨hk.1.imp id (fun h=>by omega),by have:=hk.2;omega⟩,by have:=hk.1;have:=hk.2;omega⟩)
 refine RowAt.mk (DsAt.two_of g3.cells_at g4.cells_at) (fun j hj=>?_)
 exact cH hrow (by simp [hj])
theorem pair13_fin {B:Nat} {w w2 wc W:World} {r0 r1:Frm} {u:SlA} {b5:Nat} {kd:Int} (hB:B<=w.heap.size) (hbw:Below w.heap.size w w2) (hz:w.heap.size+2<=w2.heap.size) (hbx:Below w2.heap.size w2 wc) (hb5:w2.heap.size<=b5)
  (hsl:SlIn wc (fun k=>Nw B w2 wc k/\k ≠ b5) ([r0,r1].map Frm.toD) u) (hm:Chalk.Mod (fun k=>k=b5∨k=w.heap.size+1) wc W) (hk:I64 kd):FrmIn W (Nw B w W) (.mk kd [] 0 [] [] [r0,r1]) ⟨⟨none,0,0,0⟩,⟨none,0,0,0⟩,u⟩/\Below w.heap.size w W:=by
 have z1:=hbx.size
 have z2:=hm.size
 refine ⟨⟨hk,Nat.zero_le _,(show I64 0 by unfold I64;omega),SlIn.nil (Nat.zero_le _) _ _ _,SlIn.nil (Nat.zero_le _) _ _ _,?_⟩,(hbw.trans (hbx.mono hbw.size)).trans (hm.below (by omega) (fun k hk=>by omega))⟩
 exact (hsl.agree (fun k hk=>hm.block k hk.1.2 (by have:=hk.1.1;have:=hk.2;omega))).mono (fun k hk=>⟨hk.1.1.imp id (fun h=>by omega),by have:=hk.1.2;omega⟩)
theorem not_fin {B:Nat} {w w2:World} {f:Frm} {y:FrmA} {H:Nat} {c0 c1 c2 c3 c4 c5:Value} (hB:B<=w.heap.size) (hbw:Below w.heap.size w w2) (hH:w.heap.size<=H) (hH2:H<w2.heap.size) (hy:FrmIn w (·<B) f y) :
  FrmIn ((put6 w2 H c0 c1 c2 c3 c4 c5).alloc (.cells (y.cells f).toArray 34)) (Nw B w ((put6 w2 H c0 c1 c2 c3 c4 c5).alloc (.cells (y.cells f).toArray 34))) (.mk 10 [] 0 [] [] [f]) ⟨⟨none,0,0,0⟩,⟨none,0,0,0⟩,⟨some ⟨w2.heap.size,0,none⟩,w2.heap.size,0,1⟩⟩/\Below w.heap.size w ((put6 w2 H c0 c1 c2 c3 c4 c5).alloc (.cells (y.cells f).toArray 34)):=by
 have hs:=put6_size w2 H c0 c1 c2 c3 c4 c5
 have hm:Chalk.Mod (fun k=>k=H) w2 ((put6 w2 H c0 c1 c2 c3 c4 c5).alloc (.cells (y.cells f).toArray 34)):=(put6_mod w2 H c0 c1 c2 c3 c4 c5).alloc _
 have hb:=hbw.trans (hm.below hbw.size (fun k e=>by omega))
 have hr:((put6 w2 H c0 c1 c2 c3 c4 c5).alloc (.cells (y.cells f).toArray 34)).heap[w2.heap.size]?=some (.cells (y.cells f).toArray 34 (0,0)):=by rw [heap_get,if_pos hs.symm]
 generalize (put6 w2 H c0 c1 c2 c3 c4 c5).alloc (.cells (y.cells f).toArray 34)=W at hm hb hr ⊢
 have zr:=(gS hr).1
 have z2:=hbw.size
 have zb:=hb.size
 refine ⟨⟨(show I64 10 by unfold I64;omega),Nat.zero_le _,(show I64 0 by unfold I64;omega),SlIn.nil (Nat.zero_le _) _ _ _,SlIn.nil (Nat.zero_le _) _ _ _,⟨fun _=>⟨rfl,.inr (show w.heap.size<=w2.heap.size from z2),zr⟩,by simp [Frm.l],(by show 1<=maxLen;decide),?_⟩⟩,hb⟩
 have g:FrmIn W (Nw B w W) f y:=(hy.agree (agree_of_below (hb.mono hB))).mono (fun k hk=>⟨.inl hk,by omega⟩)
 exact RowAt.mk (DsAt.one_of' g.cells_at) (fun j hj=>cH hr (by simp [hj]))
def NotEnd (B:Nat) (w w2:World) (f:Frm) (H:Nat) (wx:World):Prop:=(FrmIn wx (Nw B w wx) (.mk 10 [] 0 [] [] [f]) ⟨⟨none,0,0,0⟩,⟨none,0,0,0⟩,⟨some ⟨w2.heap.size,0,none⟩,w2.heap.size,0,1⟩⟩/\Below w.heap.size w wx) /\
 wx.heap[H]?=some (.cells #[.int .i64 10,.string ⟨#[]⟩,.int .i64 0,.slice none 0 0,.slice none 0 0,.slice (some ⟨w2.heap.size,0,none⟩) 1 1] 34 (0,0))
def Node14 (w2:World) (kind:Int) (name:Bs) (n:Int) (terms:List Trm) (binds:List Bnd) (p:Value) (W:World):Prop:=∃ (b6:Nat) (xt xb:SlA),p=.pointer (some ⟨b6,0,none⟩)/\w2.heap.size<=b6/\Below w2.heap.size w2 W /\
 W.heap[b6]?=some (.cells #[.int .i64 kind,.string ⟨name.toArray⟩,.int .i64 n,.slice xt.a terms.length xt.cap,.slice xb.a binds.length xb.cap,.slice none 0 0] 34 (0,0))/\SlIn W (fun k=>(w2.heap.size<=k/\k<W.heap.size)/\k ≠ b6) (terms.map Trm.toD) xt/\SlIn W (fun k=>(w2.heap.size<=k/\k<W.heap.size)/\k ≠ b6) (binds.map Bnd.toD) xb
theorem node14_of {w2 Wa w3 Wb w4 W:World} {kind:Int} {name:Bs} {n:Int} {terms:List Trm} {binds:List Bnd} {xt xb:SlA} {b6:Nat} (hWa:w2.heap.size<=Wa.heap.size) (hWb:w2.heap.size<=Wb.heap.size) (h3:SlIn w3 (fun k=>Wa.heap.size<=k/\k<w3.heap.size) (terms.map Trm.toD) xt) (hb34:Below w3.heap.size w3 w4) (h4:SlIn w4 (fun k=>Wb.heap.size<=k/\k<w4.heap.size) (binds.map Bnd.toD) xb)
  (hA:b6<Wa.heap.size∨w3.heap.size<=b6) (hBb:b6<Wb.heap.size∨w4.heap.size<=b6) (hb6:w2.heap.size<=b6) (h2W:Below w2.heap.size w2 W) (h4W:Chalk.Mod (fun k=>k=b6) w4 W)
  (hcell:W.heap[b6]?=some (.cells #[.int .i64 kind,.string ⟨name.toArray⟩,.int .i64 n,.slice xt.a terms.length xt.cap,.slice xb.a binds.length xb.cap,.slice none 0 0] 34 (0,0))):Node14 w2 kind name n terms binds (.pointer (some ⟨b6,0,none⟩)) W:=by
 have z34:=hb34.size
 have z4W:=h4W.size
 refine ⟨b6,xt,xb,rfl,hb6,h2W,hcell,?_,?_⟩
 ·exact (h3.agree (fun k hk=>(h4W.block k (by omega) (by omega)).trans (hb34.block k hk.2))).mono (fun k hk=>⟨⟨by omega,by omega⟩,by omega⟩)
 ·exact (h4.agree (fun k hk=>h4W.block k hk.2 (by omega))).mono (fun k hk=>⟨⟨by omega,by omega⟩,by omega⟩)
def Node25 (wc:World) (b6:Nat) (kind:Int) (name:Bs) (n:Int) (t b:Value) (W:World):Prop:=Chalk.Mod (fun k=>k=b6) wc W/\W.heap[b6]?=some (.cells #[.int .i64 kind,.string ⟨name.toArray⟩,.int .i64 n,t,b,.slice none 0 0] 34 (0,0))
theorem FrmFit.part {kind:Int} {name:Bs} {n:Int} {terms:List Trm} {binds:List Bnd} {l:List Frm} (h:FrmFit (.mk kind name n terms binds l)) {j:Nat} (hj:j<l.length):FrmFit l[j] :=
 ⟨by have:=h.size;have:=size_le_fsizes l j hj;rw [Frm.size] at *;omega,fun g hg=>h.nodes g (by rw [nodesF];exact List.mem_cons_of_mem _ (nodesL_mem hj g hg))⟩
theorem formed_part {kind:Int} {name:Bs} {n:Int} {terms:List Trm} {binds:List Bnd} {l:List Frm} (h:(nodesF (.mk kind name n terms binds l)).all formedF=true) {j:Nat} (hj:j<l.length):(nodesF l[j]).all formedF=true:=by
 rw [List.all_eq_true] at h ⊢
 exact fun g hg=>h g (by rw [nodesF];exact List.mem_cons_of_mem _ (nodesL_mem hj g hg))

theorem cloneT (l:List Trm) (x:SlA) (w:World) (hx:SlIn w (·<w.heap.size) (l.map Trm.toD) x) (hmax:l.length<=2000000) :
  Calls Tryz.prog 138 #[.slice x.a l.length x.cap] w fun e w'=>∃ u:SlA,e=.returned (.slice u.a l.length u.cap)/\SlIn w' (fun k=>w.heap.size<=k/\k<w'.heap.size) (l.map Trm.toD) u/\Below w.heap.size w w' :=
 (clone_Trm l x w hx hmax).mono (by
  rintro e w' ⟨v,r,rfl,ho,hr,hb⟩
  obtain ⟨u,rfl,hu⟩:=ho.sl (G:=fun k=>w.heap.size<=k/\k<w'.heap.size) (fun _ h=>h.elim) (fun k hk=>⟨hr k hk,ho.row_lt hk⟩) (by rw [widths_map Trm.flatT,List.length_map])
  rw [List.length_map]
  exact ⟨u,rfl,hu,hb⟩)
theorem cloneB (l:List Bnd) (x:SlA) (w:World) (hx:SlIn w (·<w.heap.size) (l.map Bnd.toD) x) (hmax:l.length<=2000000) :
  Calls Tryz.prog 139 #[.slice x.a l.length x.cap] w fun e w'=>∃ u:SlA,e=.returned (.slice u.a l.length u.cap)/\SlIn w' (fun k=>w.heap.size<=k/\k<w'.heap.size) (l.map Bnd.toD) u/\Below w.heap.size w w' :=
 (clone_Bnd l x w hx hmax).mono (by
  rintro e w' ⟨v,r,rfl,ho,hr,hb⟩
  obtain ⟨u,rfl,hu⟩:=ho.sl (G:=fun k=>w.heap.size<=k/\k<w'.heap.size) (fun _ h=>h.elim) (fun k hk=>⟨hr k hk,ho.row_lt hk⟩) (by rw [widths_map Bnd.flatT,List.length_map])
  rw [List.length_map]
  exact ⟨u,rfl,hu,hb⟩)

theorem always_any (f:Frm) (y:FrmA) (w:World):Calls Tryz.prog 136 #[ndV (f,y)] w fun e w'=>e=.returned (.bool (alwaysF f.kind f.n))/\Below w.heap.size w w':=by
 have hba:Below w.heap.size w (w.alloc (.cells (y.cells f).toArray 34)):=(Below.refl _ _).alloc (Nat.le_refl _) _
 obtain ⟨kind,name,n,terms,binds,fl⟩:=f
 have HB:=Lh hba
 clear hba
 simp only [ndV,FrmA.cells,SlA.val,Frm.kind,Frm.name,Frm.n,Frm.terms,Frm.binds,Frm.l] at HB ⊢
 generalize hres:alwaysF kind n=res
 have HR:=Lh hres
 clear hres
 by_cases h1:kind=1
 ·subst h1
  obtain rfl:res=true:=by rw [<- HR.out];rfl
  go_enter Tryz.func136,Tryz.ntmps136
  go_wp2_with fail
  go_ret
  exact ⟨rfl,HB.out⟩
 have d1:(kind==1)=false:=by simp [h1]
 by_cases h16:kind=16
 ·subst h16
  by_cases h0:n=0
  ·subst h0
   obtain rfl:res=true:=by rw [<- HR.out];rfl
   clear h1 d1
   go_enter Tryz.func136,Tryz.ntmps136
   go_wp2_with fail
   go_ret
   exact ⟨rfl,HB.out⟩
  ·have d0:(n==0)=false:=by simp [h0]
   obtain rfl:res=false:=by rw [<- HR.out];simp [alwaysF,h0]
   clear h1 d1
   go_enter Tryz.func136,Tryz.ntmps136
   go_wp2_with fail
   go_ret
   exact ⟨rfl,HB.out⟩
 have d16:(kind==16)=false:=by simp [h16]
 by_cases h17:kind=17
 ·subst h17
  by_cases h0:n=1099511627776
  ·subst h0
   obtain rfl:res=true:=by rw [<- HR.out];rfl
   clear h1 d1 h16 d16
   go_enter Tryz.func136,Tryz.ntmps136
   go_wp2_with fail
   go_ret
   exact ⟨rfl,HB.out⟩
  ·have d0:(n==1099511627776)=false:=by simp [h0]
   obtain rfl:res=false:=by rw [<- HR.out];simp [alwaysF,h0]
   clear h1 d1 h16 d16
   go_enter Tryz.func136,Tryz.ntmps136
   go_wp2_with fail
   go_ret
   exact ⟨rfl,HB.out⟩
 have d17:(kind==17)=false:=by simp [h17]
 obtain rfl:res=false:=by rw [<- HR.out];simp [alwaysF,h1,h16,h17]
 go_enter Tryz.func136,Tryz.ntmps136
 go_wp2_with fail
 go_ret
 exact ⟨rfl,HB.out⟩
end Go.Proofs.YtjjkfgjnadaheaaGreatDoor
/- The loop of formula.right's general node. -/
namespace Go.Proofs.YtjjkfgjnadaheaaGreatDoor
open Go.RowKit Go.Chalk
theorem skip_at {P:Program} {md:Region.Mode} {ops:Array Oper} {Q:Exit->Act->World->Prop} {S:World->Prop} {i:Nat} {dst:Option Tmp} {op:Op} {ty:TypeId} {ps:String} {aft:Array Edge} {gd:Option (Nat×Bool)} {fuel:Nat} {listed:Array Bool} {a:Act} {w:World} (hi:ops[i]?=some ⟨dst,op,ty,ps,aft,gd⟩)
  (hs:Region.noSelect ops=true) (hf:Region.free md ops listed i=true) (hr:(Region.ready md ops listed).contains i=true)
  (hQ:∀ c a w,Q (.panic c) (a.put dst undef) w->Q (.panic c) a w) (hw:Region.wanted ⟨dst,op,ty,ps,aft,gd⟩ (yielded ops a.tmps)=false) (hS:S w)
  (h:wpAnyH P md ops Q S fuel (listed.setIfInBounds i true) (a.put dst undef) w):wpAnyH P md ops Q S (fuel+1) listed a w :=
 wpAnyH_take hi hs hf hr hQ (.inr ⟨hw,rfl⟩) hS h
theorem infoFrm:(Tryz.prog.info? 34).map (fun i=>(i.zero,i.size,i.bytes))=some (some (.agg #[.int .i64 0,.string ByteArray.empty,.int .i64 0,.slice none 0 0,.slice none 0 0,.slice none 0 0]),6,104):=by kernel_rfl
theorem widths_frms:∀ xs:List Frm,widths (xs.map Frm.toD)=xs.length*6
 | []=>rfl
 | x :: r=>by
  have:=widths_frms r
  have h:=Frm.width x
  simp only [List.map_cons,widths,List.length_cons,this,h];omega
def NLoop (B:Nat) (wc:World) (b6:Nat) (k:Int) (nm:Bs) (n:Int) (t b:Value) (xs:List Frm) (W:World):Prop :=
 ∃ (v:Value) (F:Nat->Prop),W.heap[b6]?=some (.cells #[.int .i64 k,.string ⟨nm.toArray⟩,.int .i64 n,t,b,v] 34 (0,0))/\OwnN W wc.heap.size F 34 6 v (xs.map Frm.toD)/\(∀ k,F k->k<B∨wc.heap.size<=k)/\Chalk.Mod (fun k=>k=b6) wc W
theorem NLoop.start {B:Nat} {wc:World} {b6:Nat} {k:Int} {nm:Bs} {n:Int} {t b:Value} (h:wc.heap[b6]?=some (.cells #[.int .i64 k,.string ⟨nm.toArray⟩,.int .i64 n,t,b,.slice none 0 0] 34 (0,0))):NLoop B wc b6 k nm n t b [] wc :=
 ⟨_,fun _=>False,h,OwnN.nil _ _ _ _ _ (fun _ h=>h.elim),fun _ h=>h.elim,Chalk.Mod.refl _ _⟩
def OwnH (w:World) (lo hi:Nat) (F:Nat->Prop) (e:TypeId) (sz:Nat) (v:Value) (xs:List D):Prop:=∃ r,Chalk.Own w F e sz v r xs/\∀ k,r=some k->lo<=k/\k<hi
theorem OwnH.own {w:World} {lo hi:Nat} {F:Nat->Prop} {e:TypeId} {sz:Nat} {v:Value} {xs:List D} (h:OwnH w lo hi F e sz v xs):OwnN w lo F e sz v xs:=by
 obtain ⟨r,h1,h2⟩:=h;exact ⟨r,h1,fun k hk=>(h2 k hk).1⟩
theorem step_append_rowO {W0:World} {B:Nat} (hB:W0.heap.size=B) {lo hi:Nat} {F:Nat->Prop} {ops:Array Oper} {o:Oper} {a:Act} {K:Act->World->Prop} {Q:Exit->Act->World->Prop} {E:Prop} (hgd:o.guard=none) (s x:Operand) (t:TypeId)
  (ho:o.op=.call { callee:=.builtin .append,args:=#[s,x],argTypes:=#[t,t] }) (e:TypeId) (i:TypeInfo) (z:Value) (size bytes:Nat) (ht:Tryz.prog.underlying t=some (.slice e)) (hi':Tryz.prog.info? e=some i) (hz:i.zero=some z)
  (hsize:i.size=size) (hby:i.bytes=bytes) (hzs:z.cells.size=size) (hsz:0<size) (v:Value) (xs:List D) (y:D) (cs:List Value) (T:TypeId) (hs:a.eval s=v) (hx:a.eval x=.slice (some ⟨B,0,none⟩) 1 1)
  (hv:OwnH W0 lo hi F e size v xs) (hd:DsAt W0 F [y] cs) (hlo:lo<=W0.heap.size) (hw:y.width=size) (h63:xs.length+1<=maxLen) (hbytes:(xs.length+1)*bytes<=140737488355328)
  (h:∀ ao cap w',OwnN w' lo F e size (.slice ao (xs.length+1) cap) (xs++[y])->Below lo W0 w'->(∀ k,k<W0.heap.size->hi<=k->w'.heap[k]?=W0.heap[k]?)->K (a.put o.dst (.slice ao (xs.length+1) cap)) w') :
  if Region.wanted o (yielded ops a.tmps)=true then Oper.wp Tryz.prog o a (W0.alloc (.cells cs.toArray T)) K Q else E:=by
 have hwn:Region.wanted o (yielded ops a.tmps)=true:=by simp [Region.wanted,hgd]
 rw [if_pos hwn]
 obtain ⟨r,h1,h2⟩:=hv
 have hb:Below W0.heap.size W0 (W0.alloc (.cells cs.toArray T)):=(Below.refl _ _).alloc (Nat.le_refl _) _
 have hnb:(W0.alloc (.cells cs.toArray T)).heap[W0.heap.size]?=some (.cells cs.toArray T (0,0)):=boxed (B:=W0.heap.size+1) (Below.refl _ _) (by omega)
 have hnews:∀ j u,cs[j]?=some u->(W0.alloc (.cells cs.toArray T)).cell? ((⟨W0.heap.size,0,none⟩:Addr).add j)=some u:=fun j u hu=>by
  have hc:=cH (i:=j) hnb (v:=u) (by simpa using hu)
  unfold Addr.add
  by_cases h0:j=0
  ·subst h0;simpa using hc
  ·rw [if_neg h0];simpa using hc
 have hlen:cs.length=1*size:=by
  have:=DsAt.length _ _ hd
  rw [this];simp [widths,hw]
 have hd':DsAt (W0.alloc (.cells cs.toArray T)) F [y] cs:=DsAt.agree ((agree_of_below hb).mono h1.lt) _ _ hd
 have h1':=h1.alloc (.cells cs.toArray T)
 obtain ⟨cs0,k1,k2⟩:=h1'.cells
 refine wp_append_lies (W0.alloc (.cells cs.toArray T)) s x t ho 0 e i z size bytes ht hi' hz hsize hby hzs hsz v xs.length cs0 hs k1 ⟨W0.heap.size,0,none⟩ 1 1 cs (by rw [hx,hB]) hlen hnews (DsAt.one _ _ hd) (by omega) h63 hbytes (Nat.zero_le _) _ rfl (fun g cap w' hown hgr hat hlt=>?_)
 obtain ⟨g1,g2,g3⟩:=h1'.appended (ys:=[y]) k2 hown hgr (by rcases hat with h | h;exact .inl h.symm;exact .inr (by rw [h];rfl)) hd'
 have hm0:Chalk.Mod (fun k=>r=some k) W0 w':=(Chalk.Mod.of_below (S:=fun k=>r=some k) hb).trans g2 (fun _ _ h=>h)
 refine h _ _ _ ⟨_,g1,fun k hk=>?_⟩ (hm0.below hlo (fun k hk=>(h2 k hk).1)) (fun k hk hhi=>hm0.block k hk (fun e=>by have:=(h2 k e).2;omega))
 rcases g3 with g3 | g3
 ·rw [g3] at hk;exact (h2 k hk).1
 ·rw [g3] at hk;simp at hk;omega
theorem nl_kid {B:Nat} {wc W W1 w4:World} {v:Value} {F:Nat->Prop} {xs:List D} {r:Frm} {u:FrmA} (hv:OwnN W wc.heap.size F 34 6 v xs) (hF:∀ k,F k->k<B∨wc.heap.size<=k) (hB:B<=wc.heap.size) (hW:wc.heap.size<=W.heap.size)
  (h1:Below W.heap.size W W1) (h4:Below W1.heap.size W1 w4) (hr:FrmIn w4 (Nw B W1 w4) r u):∃ F':Nat->Prop,OwnH w4 wc.heap.size W.heap.size F' 34 6 v xs/\(∀ k,F' k->k<B∨wc.heap.size<=k)/\DsAt w4 F' [r.toD] (u.cells r):=by
 obtain ⟨rw_,ho,hlo⟩:=hv
 have h1z:=h1.size
 have hb:=h1.trans (h4.mono h1.size)
 refine ⟨fun k=>F k∨Nw B W1 w4 k,⟨rw_,(ho.below hb).widen (fun _=>.inl) (fun k hk hk'=>?_) (fun k hk=>?_),fun k hk=>⟨hlo k hk,ho.row_lt hk⟩⟩,fun k hk=>?_,DsAt.one_of' (hr.mono (fun k h=>.inr h)).cells_at⟩
 ·have h2:=hlo k hk
  have h3:=ho.row_lt hk
  rcases hk' with h | h
  ·exact ho.off k hk h
  ·have:=h.1;omega
 ·rcases hk with h | h
  ·have:=ho.lt k h;have:=hb.size;omega
  ·exact h.2
 ·rcases hk with h | h
  ·exact hF k h
  ·have:=h.1;omega
theorem nl_next {B:Nat} {wc W w4 w5:World} {b6:Nat} {k:Int} {nm:Bs} {n:Int} {t b v v':Value} {F:Nat->Prop} {xs:List Frm} {ys:List D} (hm:Chalk.Mod (fun k=>k=b6) wc W) (hc:W.heap[b6]?=some (.cells #[.int .i64 k,.string ⟨nm.toArray⟩,.int .i64 n,t,b,v] 34 (0,0)))
  (h4:Below W.heap.size W w4) (h5:Below wc.heap.size w4 w5) (ho:OwnN w5 wc.heap.size F 34 6 v' ys) (hy:ys=xs.map Frm.toD) (hF:∀ k,F k->k<B∨wc.heap.size<=k) (hb6:b6<wc.heap.size) (hBb:B<=b6) :
  (w5.cell? ⟨b6,5,none⟩=some v/\w5.frozen? ⟨b6,5,none⟩=false)/\NLoop B wc b6 k nm n t b xs (w5.setCell ⟨b6,5,none⟩ v')/\Below W.heap.size w4 w4:=by
 subst hy
 have hz:=hm.size
 have e4:w4.heap[b6]?=some (.cells #[.int .i64 k,.string ⟨nm.toArray⟩,.int .i64 n,t,b,v] 34 (0,0)):=(h4.block b6 (by omega)).trans hc
 have e5:=(h5.block b6 (by have:=h4.size;omega)).trans e4
 refine ⟨⟨cH e5 rfl,fH e5⟩,⟨v',F,box_store (i:=5) v' e5,?_,hF,?_⟩,Below.refl _ _⟩
 ·obtain ⟨r,h1,h2⟩:=ho
  refine ⟨r,h1.store v' (fun h=>?_) (fun h=>?_),h2⟩
  ·have:=hF b6 h;omega
  ·have:=h2 b6 h;omega
 ·exact ((hm.trans (T:=fun k=>wc.heap.size<=k) (Chalk.Mod.of_below (h4.mono (Nat.le_refl _)) |>.trans (T:=fun k=>wc.heap.size<=k) ⟨h5.os,h5.tape,h5.output,h5.size,fun k hk hs=>h5.block k (by omega)⟩ (fun _ _ h=>h)) (fun k hk h=>by omega))).setCell (p:=⟨b6,5,none⟩) (fun _=>rfl) v'
def NStep (W0:World) (B:Nat) (wc:World) (b6:Nat) (k:Int) (nm:Bs) (n:Int) (t b:Value) (xs:List Frm) (W:World):Prop:=Below W0.heap.size W0 W/\NLoop B wc b6 k nm n t b xs W
theorem keep28 {w w':World} {p q:Nat} {c v0 v1 v2 v3 v4 v5:Value} (h:w.cell? ⟨p,0,none⟩=some c/\w.cell? ⟨q,0,none⟩=some v0/\w.cell? ⟨q,1,none⟩=some v1/\w.cell? ⟨q,2,none⟩=some v2/\w.cell? ⟨q,3,none⟩=some v3/\w.cell? ⟨q,4,none⟩=some v4/\w.cell? ⟨q,5,none⟩=some v5) (hp:w'.heap[p]?=w.heap[p]?) (hq:w'.heap[q]?=w.heap[q]?) :
  w'.cell? ⟨p,0,none⟩=some c/\w'.cell? ⟨q,0,none⟩=some v0/\w'.cell? ⟨q,1,none⟩=some v1/\w'.cell? ⟨q,2,none⟩=some v2/\w'.cell? ⟨q,3,none⟩=some v3/\w'.cell? ⟨q,4,none⟩=some v4/\w'.cell? ⟨q,5,none⟩=some v5:=by
 obtain ⟨h0,h1,h2,h3,h4,h5,h6⟩:=h
 exact ⟨(World.cell?_of_block hp).trans h0,(World.cell?_of_block hq).trans h1,(World.cell?_of_block hq).trans h2,(World.cell?_of_block hq).trans h3,(World.cell?_of_block hq).trans h4,(World.cell?_of_block hq).trans h5,(World.cell?_of_block hq).trans h6⟩
theorem meas_step {nf j:Nat} (h:j<nf):nf - (intOf (.int .i64 ((j:Int)+1))).toNat<nf - (intOf (.int .i64 (j:Int))).toNat:=by
 simp [intOf];omega
theorem wp_as_then {P:Program} {c:Code} {Q:Exit->Act->World->Prop} {a:Act} {w:World} (h:∀ K:Act->World->Prop,Hid (∀ a w,Q .normal a w->K a w)->c.wp P (Exit.then K Q) a w):c.wp P Q a w :=
 wp_mono (h (Q .normal) (Lh (fun _ _ h=>h))) (fun e a w hq=>by cases e <;> exact hq)
theorem set_other {W:World} {a:Addr} {v:Value} {k:Nat} (h:k ≠ a.block):(W.setCell a v).heap[k]?=W.heap[k]?:=by
 by_cases hk:k<W.heap.size
 ·exact ((Chalk.Mod.refl (fun k=>k=a.block) W).setCell (p:=a) (fun _=>rfl) v).block k hk h
 ·rw [Array.getElem?_eq_none (by simp;omega),Array.getElem?_eq_none (by omega)]
theorem nl_end {B:Nat} {w w2 w5 wc W:World} {b6:Nat} {k:Int} {nm:Bs} {n:Int} {terms:List Trm} {binds:List Bnd} {xt xb:SlA} {xs:List Frm} (hB:B<=w.heap.size) (hbw:Below w.heap.size w w5) (hz2:w.heap.size+2<=w2.heap.size) (h25:w2.heap.size<=w5.heap.size) (hb6:w2.heap.size<=b6)
  (hxt:SlIn w5 (fun k=>(w2.heap.size<=k/\k<w5.heap.size)/\k ≠ b6) (terms.map Trm.toD) xt) (hxb:SlIn w5 (fun k=>(w2.heap.size<=k/\k<w5.heap.size)/\k ≠ b6) (binds.map Bnd.toD) xb) (hm:Chalk.Mod (fun k=>k=b6) w5 wc)
  (hn:NLoop B wc b6 k nm n (.slice xt.a terms.length xt.cap) (.slice xb.a binds.length xb.cap) xs W) (hk:I64 k) (hnm:nm.length<=maxLen) (hnn:I64 n) :
  ∃ u:SlA,W.heap[b6]?=some (.cells #[.int .i64 k,.string ⟨nm.toArray⟩,.int .i64 n,.slice xt.a terms.length xt.cap,.slice xb.a binds.length xb.cap,.slice u.a xs.length u.cap] 34 (0,0)) /\
   FrmIn W (fun k=>Nw B w W k/\k ≠ w.heap.size+1) (.mk k nm n terms binds xs) ⟨xt,xb,u⟩/\Below w.heap.size w W:=by
 obtain ⟨v,F,hc,⟨r,ho,hlo⟩,hF,hmW⟩:=hn
 have z1:=hm.size
 have z2:=hmW.size
 have z0:=hbw.size
 have hm5:Chalk.Mod (fun k=>k=b6) w5 W:=hm.trans hmW (fun _ _ h=>h)
 obtain ⟨u,e,hu⟩:=DAt.sl_iff.1 (ho.read (G:=fun k=>Nw B w W k/\k ≠ w.heap.size+1) (fun k hk=>by
  have h1:=hF k hk;have h2:=ho.lt k hk
  exact ⟨⟨by omega,h2⟩,by omega⟩) (fun k hk=>by
  have h1:=hlo k hk;have h2:=ho.row_lt hk
  exact ⟨⟨by omega,h2⟩,by omega⟩) (by rw [widths_frms,List.length_map]))
 simp only [List.cons.injEq,and_true,List.length_map] at e
 have hx:∀ {l:List D} {y:SlA},SlIn w5 (fun k=>(w2.heap.size<=k/\k<w5.heap.size)/\k ≠ b6) l y->SlIn W (fun k=>Nw B w W k/\k ≠ w.heap.size+1) l y:=fun h =>
  (h.agree (hm5.agree (fun k hk=>⟨hk.1.2,hk.2⟩))).mono (fun k hk=>⟨⟨.inr (by omega),by omega⟩,by omega⟩)
 exact ⟨u,by rw [hc,e],⟨hk,hnm,hnn,hx hxt,hx hxb,hu⟩,hbw.trans (hm5.below z0 (fun k hk=>by omega))⟩
theorem node_eq {kind:Int} {name:Bs} {n:Int} {terms:List Trm} {binds:List Bnd} {fl:List Frm} {turn:Bool} (hA:alwaysF kind n=false) (h2:¬ kind=2) (h10:¬ kind=10) (h13:¬ kind=13) (hN:¬ (atomK kind=true/\turn=true/\kind ≠ 9)) :
  rightNode kind name n terms binds fl (rightL fl turn) (rightL fl (!turn)) turn=.mk (if turn&&decide (kind ≠ 9) then dualK kind else kind) (if turn&&decide (kind=9) then negS name else name) (if turn then (if kind=16 then n - 1 else if kind=17 then n+1 else n) else n) terms binds (rightL fl (turn&&!countK kind)):=by
 unfold rightNode
 rw [if_neg (by simp [hA,h2]),if_neg (by simp [hA,h2]),if_neg h10,if_neg h13,if_neg (fun h=>hN (by simpa [and_assoc] using h))]
 congr 1
 cases turn <;> cases countK kind <;> rfl
theorem negS_len (name:Bs):(negS name).length<=2:=by
 unfold negS
 repeat' split
 all_goals decide
theorem dualK_i64 (k:Int):I64 (dualK k):=by
 unfold dualK
 repeat' split
 all_goals exact i64_of (by decide)
theorem node_i64 {kind:Int} {n:Int} {turn:Bool} (hk:I64 kind):I64 (if turn&&decide (kind ≠ 9) then dualK kind else kind):=by
 split
 ·exact dualK_i64 kind
 ·exact hk
theorem node_nm {kind:Int} {name:Bs} {turn:Bool} (hn:name.length<=maxLen):(if turn&&decide (kind=9) then negS name else name).length<=maxLen:=by
 split
 ·exact Nat.le_trans (negS_len name) (by decide)
 ·exact hn
theorem node_n {kind:Int} {name:Bs} {n:Int} {terms:List Trm} {binds:List Bnd} {fl:List Frm} {turn:Bool} (hn:I64 n) (hf:formedF (.mk kind name n terms binds fl)=true):I64 (if turn then (if kind=16 then n - 1 else if kind=17 then n+1 else n) else n):=by
 have h:quantK kind=true->numberB n=true:=fun hq=>by
  rw [formed_quant hq] at hf;simp only [Bool.and_eq_true] at hf;exact hf.2.2
 split
 ·split
  ·rename_i h16;subst h16
   have:=h (by decide);unfold numberB at this;simp at this;unfold I64;omega
  split
  ·rename_i h17;subst h17
   have:=h (by decide);unfold numberB at this;simp at this;unfold I64;omega
  ·exact hn
 ·exact hn
end Go.Proofs.YtjjkfgjnadaheaaGreatDoor
