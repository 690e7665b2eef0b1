/- Joined texts: PWrB, PWrT, PWrG, PWrH, UText. -/
import Derived.Test.YtncnnbmeacpboaaGreatDoorN33
import Derived.Test.YtncnnbmeacpboaaGreatDoorLGl3
import Derived.Test.YtncnnbmeacpboaaGreatDoorN32
set_option maxHeartbeats 2000000
set_option maxRecDepth 100000
set_option linter.unusedVariables false
set_option linter.unusedSimpArgs false
/- The writer of layer syntax: binds, tight, within, both. (written by tools/gen_pwr2.py) -/
namespace Go.Proofs.YtncnnbmeacpboaaGreatDoor
open Go.RowKit Go.Chalk
attribute [local go_sem] Oper.semAt_some
theorem WPost.then {w w1 w':World} {P:Nat} {l a b:Bs} {e1 e:Ending} (h1:WPost w P l a e1 w1) (h:WPost w1 P (l++a) b e w'):WPost w P l (a++b) e w':=⟨h.1,by rw [<- List.append_assoc];exact h.2.1,h1.2.2.trans h.2.2⟩
theorem WPost.last {w w1 w':World} {P:Nat} {l a b c:Bs} {e1 e:Ending} (h1:WPost w P l a e1 w1) (h:WPost w1 P (l++a) b e w') (hc:a++b=c):WPost w P l c e w':=(h1.then h).eq hc
theorem WPost.start {w:World} {P:Nat} {l:Bs} (h:WAt w P l):WPost w P l [] (.returned (.tuple #[])) w:=⟨rfl,by rw [List.append_nil];exact h,Wr.refl _ _ _⟩
theorem WPost.lead {w W w':World} {P:Nat} {l s:Bs} {e:Ending} (hW:Wr P 5 w W) (h:WPost W P l s e w'):WPost w P l s e w':=⟨h.1,h.2.1,hW.trans h.2.2⟩
theorem wbinds_any (P:Nat) (bs:List Bnd) (z:SlA) (l:Bs) (w:World) (h:WAt w P l) (hz:SlIn w (·<P) (bs.map Bnd.toD) z) (hn:bs.length<=1000000) (hlen:l.length+(txtBinds bs).length<=maxTx) :
  Calls Tryz.prog 126 #[.pointer (some ⟨P,0,none⟩),.slice z.a bs.length z.cap] w (WPost w P l (txtBinds bs)):=by
 obtain ⟨g1,_,_,g4,_⟩:=hz.flat Bnd.flatT
 have HG:=Lh (aI g1 g4)
 have HB0:=Lh (aI h (Nat.le_of_lt h.lt))
 have HL:=Lh hlen
 clear h hz g1 g4 hlen
 go_enter Tryz.func126,Tryz.ntmps126
 go_wp2_with fail
 go_loopw [8] (fun s8 wr=>∃ j:Nat,j<=bs.length/\s8=.int .i64 j/\Hid (WPost w P l (txtBinds (bs.take j)) (.returned (.tuple #[])) wr)) (fun s8 _=>bs.length - (intOf s8).toNat)
 case atStart=>exact ⟨0,Nat.zero_le _,rfl,Lh (by simpa [txtBinds] using WPost.start HB0.out.1)⟩
 case round =>
  obtain ⟨j,hj,rfl,HW⟩:=hrel
  by_cases hlt:j<bs.length
  ·obtain ⟨hza,hzb⟩:=HG.out.1 (by omega)
   have hlow:=HW.out.2.2.below
   have hPw:P<=wr.heap.size:=Nat.le_of_lt HW.out.2.1.lt
   obtain ⟨q0,q1⟩:=(HG.out.2.below hlow (fun _=>hzb)).two j hlt rfl
   obtain ⟨W1,hW1⟩:∃ W1,W1=wr.alloc (.cells #[.string ⟨(bs[j]).name.toArray⟩,.int .i64 (bs[j]).sort] 94):=⟨_,rfl⟩
   have hx1:W1.heap[wr.heap.size]?=some (.cells #[.string ⟨(bs[j]).name.toArray⟩,.int .i64 (bs[j]).sort] 94 (0,0)):=by rw [hW1];exact heap_alloc_new _ _
   have hb1:Below wr.heap.size wr W1:=by rw [hW1];exact below_new _ _
   have hnext:=txtBinds_take bs j hlt
   have hmax:l.length+(txtBinds (bs.take (j+1))).length<=maxTx:=Nat.le_trans (Nat.add_le_add_left (txtBinds_le bs (bs.length - (j+1)) (j+1) (by omega)) _) HL.out
   rw [hnext] at hmax
   have HNX:=Lh hnext
   have HMX:=Lh hmax
   have hA1:WAt W1 P (l++txtBinds (bs.take j)):=HW.out.2.1.below hb1
   have HE1:Hid (∀ w',Wr P 5 W1 w'->w'.cell? ⟨wr.heap.size,0,none⟩=some (.string ⟨(bs[j]).name.toArray⟩)/\w'.cell? ⟨wr.heap.size,1,none⟩=some (.int .i64 (bs[j]).sort)):=Lh (fun w' hW=>by
    have e0:=hW.kept hx1 (by decide) (by have:=HW.out.2.1.lt;omega)
    exact ⟨cH e0 rfl,cH e0 rfl⟩)
   have H1:=Lh (aI hA1 (aI (show P<=W1.heap.size by have:=hb1.size;omega) (Wr.of_below (u:=5) hb1 hPw)))
   have HW1:=Lh hW1
   have HZA:=Lh hza
   rw [hza]
   clear hza hx1 hb1 hnext hmax hA1 hW1 hlow hPw
   generalize bs[j]=b at *
   obtain ⟨name,sort⟩:=b
   simp only at q0 q1 HW1 HE1
   have HTB:Hid (txtBind ⟨name,sort⟩=name++([58,32]++kwOf kwSort sort)):=Lh rfl
   rw [HTB.out] at HNX HMX
   by_cases h0:j=0
   ·subst h0
    rw [if_pos rfl] at HNX HMX
    simp only [Nat.zero_mul,Nat.add_zero] at q0 q1
    have HKD:=Lh (sorts_any W1.drew)
    have HKO:=Lh (fun (W:World) (hb:KwAt W W1.heap.size kwSort)=>wof_kw kwSort sort W1.heap.size W hb kwSort_nd)
    go_wp2_with fail
    rw [<- HW1.out]
    refine wp_region_noPanic ?_
    refine wp_region_held_drew (S:=fun w'=>w'.cell? ⟨wr.heap.size,0,none⟩=some (.string ⟨name.toArray⟩)/\w'.cell? ⟨wr.heap.size,1,none⟩=some (.int .i64 sort)) (by kernel_rfl) (HE1.out _ (Wr.of_below (Below.refl _ _).drew H1.out.2.1)) (fun hHeld=>?_)
    refine tkA (i:=0) rfl hHeld ?_
    refine tkA (i:=1) rfl hHeld ?_
    refine tkA (i:=2) rfl hHeld ?_
    refine tkA (i:=4) rfl hHeld ?_
    refine tkA (i:=5) rfl hHeld ?_
    refine wpAnyH_ready (rs:=[3]) (by kernel_rfl) (by simp) ?_
    refine cons_at rfl (fun K hK=>?_) AllReadyH.nil
    go_simp
    go_at_call 167
    refine HKD.out.mono ?_
    rintro e w2 ⟨rfl,rfl⟩
    have hb2:Below W1.heap.size W1 (W1.drew.alloc (.map (kwEs 0 kwSort).toArray 7)):=(Below.refl _ _).drew.alloc (Nat.le_refl _) _
    have hk2:KwAt (W1.drew.alloc (.map (kwEs 0 kwSort).toArray 7)) W1.heap.size kwSort:=heap_alloc_new W1.drew _
    generalize W1.drew.alloc (.map (kwEs 0 kwSort).toArray 7)=w2 at hb2 hk2 ⊢
    have H2:=Lh (aI hb2 hk2)
    clear hb2 hk2
    go_simp
    refine hK.out _ _ (HE1.out _ (Wr.of_below H2.out.1 H1.out.2.1)) fun hHeld=>?_
    clear hK K
    try simp only [Act.put,List.setIfInBounds_toArray,List.set_cons_zero,List.set_cons_succ]
    refine wpAnyH_ready (rs:=[6]) (by kernel_rfl) (by simp) ?_
    refine cons_at rfl (fun K hK=>?_) AllReadyH.nil
    go_simp
    go_at_call 125
    refine (HKO.out w2 H2.out.2).mono ?_
    rintro e w3 ⟨rfl,hb3⟩
    have H3:=Lh (H2.out.1.trans (hb3.mono H2.out.1.size))
    clear hb3
    go_simp
    refine hK.out _ _ (HE1.out _ (Wr.of_below H3.out H1.out.2.1)) fun hHeld=>?_
    clear hK K
    try simp only [Act.put,List.setIfInBounds_toArray,List.set_cons_zero,List.set_cons_succ]
    refine wpAnyH_ready (rs:=[7]) (by kernel_rfl) (by simp) ?_
    refine cons_at rfl (fun K hK=>?_) AllReadyH.nil
    go_simp
    refine hK.out _ _ (HE1.out _ (Wr.of_below (H3.out.alloc H3.out.size _) H1.out.2.1)) fun hHeld=>?_
    clear hK K
    try simp only [Act.put,List.setIfInBounds_toArray,List.set_cons_zero,List.set_cons_succ]
    refine wpAnyH_ready (rs:=[8]) (by kernel_rfl) (by simp) ?_
    refine cons_at rfl (fun K hK=>?_) AllReadyH.nil
    go_simp
    go_at_call 120
    refine (put3 P name [58,32] (kwOf kwSort sort) (l++txtBinds (bs.take 0)) w3 rfl (H1.out.1.below H3.out) (by have h:=HMX.out;simp only [List.length_append,List.length_cons,List.length_nil] at h ⊢;omega)).mono ?_
    rintro e w4 hp
    have HP:=Lh (hp.before H3.out H1.out.2.1)
    obtain ⟨rfl,_,_⟩:=hp
    go_simp
    refine hK.out _ _ (HE1.out _ HP.out.2.2) fun hHeld=>?_
    clear hK K
    try simp only [Act.put,List.setIfInBounds_toArray,List.set_cons_zero,List.set_cons_succ]
    refine wpAnyH_done (by kernel_rfl) ?_ _
    refine NoPanic.normal ?_
    go_wp2_with fail
    have hfin:WPost w P l (txtBinds (bs.take (0+1))) (.returned (.tuple #[])) w4:=HW.out.last (HP.out.lead H1.out.2.2) (by rw [HNX.out,List.nil_append])
    exact ⟨⟨0+1,by omega,by go_num,Lh hfin⟩,by simp [intOf];omega⟩
   ·rw [if_neg h0] at HNX HMX
    have h0':decide ((0:Int)<(j:Int))=true:=by simp;omega
    go_wp2_with fail
    rw [<- HW1.out]
    refine (put1 P [44,32] (l++txtBinds (bs.take j)) W1 (B:=wr.heap.size+1) (by rw [HW1.out];simp) H1.out.1 (by have h:=HMX.out;simp only [List.length_append,List.length_cons,List.length_nil] at h ⊢;omega)).mono ?_
    rintro e W2 hp
    have HP1:=Lh hp
    obtain ⟨rfl,hA2,hW2⟩:=hp
    have H2':=Lh (aI hA2 (Nat.le_of_lt hA2.lt))
    have HE2:=Lh (fun w' (hW:Wr P 5 W2 w')=>HE1.out w' (HP1.out.2.2.trans hW))
    have HKD:=Lh (sorts_any W2.drew)
    have HKO:=Lh (fun (W:World) (hb:KwAt W W2.heap.size kwSort)=>wof_kw kwSort sort W2.heap.size W hb kwSort_nd)
    clear hA2 hW2
    go_wp2_with fail
    refine wp_region_noPanic ?_
    refine wp_region_held_drew (S:=fun w'=>w'.cell? ⟨wr.heap.size,0,none⟩=some (.string ⟨name.toArray⟩)/\w'.cell? ⟨wr.heap.size,1,none⟩=some (.int .i64 sort)) (by kernel_rfl) (HE2.out _ (Wr.of_below (Below.refl _ _).drew H2'.out.2)) (fun hHeld=>?_)
    refine tkA (i:=0) rfl hHeld ?_
    refine tkA (i:=1) rfl hHeld ?_
    refine tkA (i:=2) rfl hHeld ?_
    refine tkA (i:=4) rfl hHeld ?_
    refine tkA (i:=5) rfl hHeld ?_
    refine wpAnyH_ready (rs:=[3]) (by kernel_rfl) (by simp) ?_
    refine cons_at rfl (fun K hK=>?_) AllReadyH.nil
    go_simp
    go_at_call 167
    refine HKD.out.mono ?_
    rintro e w2 ⟨rfl,rfl⟩
    have hb2:Below W2.heap.size W2 (W2.drew.alloc (.map (kwEs 0 kwSort).toArray 7)):=(Below.refl _ _).drew.alloc (Nat.le_refl _) _
    have hk2:KwAt (W2.drew.alloc (.map (kwEs 0 kwSort).toArray 7)) W2.heap.size kwSort:=heap_alloc_new W2.drew _
    generalize W2.drew.alloc (.map (kwEs 0 kwSort).toArray 7)=w2 at hb2 hk2 ⊢
    have H2:=Lh (aI hb2 hk2)
    clear hb2 hk2
    go_simp
    refine hK.out _ _ (HE2.out _ (Wr.of_below H2.out.1 H2'.out.2)) fun hHeld=>?_
    clear hK K
    try simp only [Act.put,List.setIfInBounds_toArray,List.set_cons_zero,List.set_cons_succ]
    refine wpAnyH_ready (rs:=[6]) (by kernel_rfl) (by simp) ?_
    refine cons_at rfl (fun K hK=>?_) AllReadyH.nil
    go_simp
    go_at_call 125
    refine (HKO.out w2 H2.out.2).mono ?_
    rintro e w3 ⟨rfl,hb3⟩
    have H3:=Lh (H2.out.1.trans (hb3.mono H2.out.1.size))
    clear hb3
    go_simp
    refine hK.out _ _ (HE2.out _ (Wr.of_below H3.out H2'.out.2)) fun hHeld=>?_
    clear hK K
    try simp only [Act.put,List.setIfInBounds_toArray,List.set_cons_zero,List.set_cons_succ]
    refine wpAnyH_ready (rs:=[7]) (by kernel_rfl) (by simp) ?_
    refine cons_at rfl (fun K hK=>?_) AllReadyH.nil
    go_simp
    refine hK.out _ _ (HE2.out _ (Wr.of_below (H3.out.alloc H3.out.size _) H2'.out.2)) fun hHeld=>?_
    clear hK K
    try simp only [Act.put,List.setIfInBounds_toArray,List.set_cons_zero,List.set_cons_succ]
    refine wpAnyH_ready (rs:=[8]) (by kernel_rfl) (by simp) ?_
    refine cons_at rfl (fun K hK=>?_) AllReadyH.nil
    go_simp
    go_at_call 120
    refine (put3 P name [58,32] (kwOf kwSort sort) (l++txtBinds (bs.take j)++[44,32]) w3 rfl (H2'.out.1.below H3.out) (by have h:=HMX.out;simp only [List.length_append,List.length_cons,List.length_nil] at h ⊢;omega)).mono ?_
    rintro e w4 hp
    have HP:=Lh (hp.before H3.out H2'.out.2)
    obtain ⟨rfl,_,_⟩:=hp
    go_simp
    refine hK.out _ _ (HE2.out _ HP.out.2.2) fun hHeld=>?_
    clear hK K
    try simp only [Act.put,List.setIfInBounds_toArray,List.set_cons_zero,List.set_cons_succ]
    refine wpAnyH_done (by kernel_rfl) ?_ _
    refine NoPanic.normal ?_
    go_wp2_with fail
    have hfin:WPost w P l (txtBinds (bs.take (j+1))) (.returned (.tuple #[])) w4:=HW.out.last ((HP1.out.lead H1.out.2.2).then HP.out) (by rw [HNX.out])
    exact ⟨⟨j+1,by omega,by go_num,Lh hfin⟩,by simp [intOf];omega⟩
  ·go_wp2_with fail
   go_end0
   have hje:j=bs.length:=by omega
   subst hje
   have hA:=HW.out
   rw [List.take_length] at hA
   exact hA
end Go.Proofs.YtncnnbmeacpboaaGreatDoor
/- The writer of layer syntax: tight, within. -/
namespace Go.Proofs.YtncnnbmeacpboaaGreatDoor
open Go.RowKit Go.Chalk
attribute [local go_sem] Oper.semAt_some
theorem tight_idx (k:Int):max 0 (Lib.idxOf [0,13,12,11] k)=(tightK k:Int):=by
 unfold tightK
 by_cases h0:k=0
 ·subst h0;decide
 by_cases h1:k=13
 ·subst h1;decide
 by_cases h2:k=12
 ·subst h2;decide
 by_cases h3:k=11
 ·subst h3;decide
 ·have:Lib.idxOf [0,13,12,11] k = -1:=by
   simp [Lib.idxOf,Lib.idxFrom,h0,h1,h2,h3,Ne.symm h0,Ne.symm h1,Ne.symm h2,Ne.symm h3,eq_comm]
  rw [this,if_neg h1,if_neg h2,if_neg h3];rfl
theorem tight_any (k n:Int) (name:Bs) (v3 v4 v5:Value) (w:World) (ta tb tc:Option Addr) (n3 c3 n4 c4 n5 c5:Nat) (h3:v3=.slice ta n3 c3) (h4:v4=.slice tb n4 c4) (h5:v5=.slice tc n5 c5) :
  Calls Tryz.prog 166 #[.agg #[.int .i64 k,.string ⟨name.toArray⟩,.int .i64 n,v3,v4,v5]] w fun e w'=>e=.returned (.int .i64 (tightK k))/\Below w.heap.size w w':=by
 subst h3 h4 h5
 have HT:=Lh (tight_idx k)
 obtain ⟨W0,hW0⟩:∃ W0,W0=(w.alloc (.cells #[.int .i64 k,.string ⟨name.toArray⟩,.int .i64 n,.slice ta n3 c3,.slice tb n4 c4,.slice tc n5 c5] 64)).alloc (.cells #[.int .i64 0,.int .i64 13,.int .i64 12,.int .i64 11] 3):=⟨_,rfl⟩
 have hb:Below w.heap.size w W0:=by rw [hW0];exact (below_new _ _).alloc (by simp) _
 have hc:W0.heap[w.heap.size+1]?=some (.cells #[.int .i64 0,.int .i64 13,.int .i64 12,.int .i64 11] 3 (0,0)):=by rw [hW0,heap_get,if_pos (by simp)]
 have HI:=Lh (Tryz.slices_Index_int (w.heap.size+1) 0 4 4 [0,13,12,11] k W0 (by decide) (by decide) (fun j hj=>by
  have:j=0∨j=1∨j=2∨j=3:=by simp at hj;omega
  rcases this with rfl | rfl | rfl | rfl <;> exact cH hc rfl))
 have HB:=Lh hb
 have HW0:=Lh hW0
 clear hb hc hW0
 go_enter Tryz.func166,Tryz.ntmps166
 go_wp2_with fail
 rw [<- HW0.out]
 refine HI.out.mono ?_
 rintro e w1 ⟨rfl,rfl⟩
 simp only [List.take_succ_cons,List.take_zero]
 have HT2:=HT.out
 generalize Lib.idxOf [0,13,12,11] k=v at HT2 ⊢
 have HV:=Lh HT2
 clear HT2 HT HI
 go_wp2_with fail
 all_goals
  go_ret
  exact ⟨by rw [<- HV.out];first | rfl | (congr 1;simp <;> omega),HB.out⟩
def FormOk (w0:World) (P:Nat) (g:Frm):Prop:=∀ (y:FrmA) (l:Bs) (w:World),Below w0.heap.size w0 w->WAt w P l->FrmIn w (·<P) g y->l.length+(txtF g).length<=maxTx ->
 Calls Tryz.prog 75 #[.pointer (some ⟨P,0,none⟩),.agg #[.int .i64 g.kind,.string ⟨g.name.toArray⟩,.int .i64 g.n,.slice y.t.a g.terms.length y.t.cap,.slice y.b.a g.binds.length y.b.cap,.slice y.l.a g.l.length y.l.cap]] w (WPost w P l (txtF g))
theorem within_any (w0:World) (P:Nat) (hP:w0.heap.size<=P) (g:Frm) (hF:FormOk w0 P g) (y:FrmA) (least:Nat) (l:Bs) (w:World) (hb:Below w0.heap.size w0 w) (h:WAt w P l) (hy:FrmIn w (·<P) g y) (hlen:l.length+(txtIn g least).length<=maxTx) :
  Calls Tryz.prog 122 #[.pointer (some ⟨P,0,none⟩),.agg #[.int .i64 g.kind,.string ⟨g.name.toArray⟩,.int .i64 g.n,.slice y.t.a g.terms.length y.t.cap,.slice y.b.a g.binds.length y.b.cap,.slice y.l.a g.l.length y.l.cap],.int .i64 least] w (WPost w P l (txtIn g least)):=by
 obtain ⟨W0,hW0⟩:∃ W0,W0=w.alloc (.cells #[.int .i64 g.kind,.string ⟨g.name.toArray⟩,.int .i64 g.n,.slice y.t.a g.terms.length y.t.cap,.slice y.b.a g.binds.length y.b.cap,.slice y.l.a g.l.length y.l.cap] 64):=⟨_,rfl⟩
 have hb0:Below w.heap.size w W0:=by rw [hW0];exact below_new _ _
 have hx:W0.heap[w.heap.size]?=some (.cells #[.int .i64 g.kind,.string ⟨g.name.toArray⟩,.int .i64 g.n,.slice y.t.a g.terms.length y.t.cap,.slice y.b.a g.binds.length y.b.cap,.slice y.l.a g.l.length y.l.cap] 64 (0,0)):=by rw [hW0];exact heap_alloc_new _ _
 have hA0:=h.below hb0
 have hPl:=h.lt
 have HE:Hid (∀ w',Wr P 5 W0 w'->w'.cell? ⟨w.heap.size,0,none⟩=some (.int .i64 g.kind)/\w'.cell? ⟨w.heap.size,1,none⟩=some (.string ⟨g.name.toArray⟩)/\w'.cell? ⟨w.heap.size,2,none⟩=some (.int .i64 g.n)/\w'.cell? ⟨w.heap.size,3,none⟩=some (.slice y.t.a g.terms.length y.t.cap)/\w'.cell? ⟨w.heap.size,4,none⟩=some (.slice y.b.a g.binds.length y.b.cap)/\w'.cell? ⟨w.heap.size,5,none⟩=some (.slice y.l.a g.l.length y.l.cap)):=Lh (fun w' hW=>by
  have e0:=hW.kept hx (by decide) (by omega)
  exact ⟨cH e0 rfl,cH e0 rfl,cH e0 rfl,cH e0 rfl,cH e0 rfl,cH e0 rfl⟩)
 have HTI:=Lh (tight_any g.kind g.n g.name (.slice y.t.a g.terms.length y.t.cap) (.slice y.b.a g.binds.length y.b.cap) (.slice y.l.a g.l.length y.l.cap) W0 _ _ _ _ _ _ _ _ _ rfl rfl rfl)
 have HFO:=Lh (fun (l':Bs) (W:World) (hW:Wr P 5 w W) (hA:WAt W P l') (hl:l'.length+(txtF g).length<=maxTx)=>hF y l' W (hb.trans (hW.below.mono hP)) hA (hy.agree (agree_of_below hW.below)) hl)
 have H0:=Lh (aI hb0 (aI hA0 (Nat.le_of_lt hPl)))
 have HW0:=Lh hW0
 have HL:=Lh hlen
 have HTX:Hid (txtIn g least=if 0<tightK g.kind/\tightK g.kind<least then [40]++(txtF g++[41]) else txtF g):=Lh rfl
 clear hb hF hy hb0 hx hA0 hW0 h hlen
 generalize hk:g.kind=k at *
 generalize g.name=name at *
 generalize g.n=n at *
 generalize g.terms.length=nt at *
 generalize g.binds.length=nb at *
 generalize g.l.length=nl at *
 by_cases hc:0<tightK k/\tightK k<least
 ·rw [HTX.out,if_pos hc] at HL
  rw [HTX.out,if_pos hc]
  have e1:decide ((0:Int)<((tightK k:Nat):Int))=true:=by simpa using hc.1
  have e2:decide (((tightK k:Nat):Int)<(least:Int))=true:=by simpa using hc.2
  generalize ((tightK k:Nat):Int)=tk at *
  clear hc HTX hk
  go_enter Tryz.func122,Tryz.ntmps122
  go_wp2_with fail
  rw [<- HW0.out]
  refine HTI.out.mono ?_
  rintro e w1 ⟨rfl,hb1⟩
  have H1:=Lh (aI (WPost.start (H0.out.2.1.below hb1)) (Wr.of_below (u:=5) hb1 (Nat.le_of_lt H0.out.2.1.lt)))
  clear hb1
  go_wp2_with fail
  refine (put1 P [40] l w1 rfl (by simpa using H1.out.1.2.1) (by have h:=HL.out;simp only [List.length_append,List.length_cons,List.length_nil] at h ⊢;omega)).mono ?_
  rintro e w2 hp
  have H2:=Lh (aI hp (aI (H1.out.2.trans hp.2.2) ((Wr.of_below H0.out.1 H0.out.2.2).trans (H1.out.2.trans hp.2.2))))
  obtain ⟨rfl,_,_⟩:=hp
  obtain ⟨c0,c1,c2,c3,c4,c5⟩:=HE.out w2 H2.out.2.1
  go_wp2_with fail
  refine (HFO.out _ w2 H2.out.2.2 H2.out.1.2.1 (by have h:=HL.out;simp only [List.length_append,List.length_cons,List.length_nil] at h ⊢;omega)).mono ?_
  rintro e w3 hp
  have H3:=Lh (H2.out.1.then hp)
  obtain ⟨rfl,_,_⟩:=hp
  clear c0 c1 c2 c3 c4 c5
  go_wp2_with fail
  refine (put1 P [41] _ w3 rfl H3.out.2.1 (by have h:=HL.out;simp only [List.length_append,List.length_cons,List.length_nil] at h ⊢;omega)).mono ?_
  rintro e w4 hp
  have H4:=Lh ((H3.out.then hp).lead ((Wr.of_below H0.out.1 H0.out.2.2).trans H1.out.2))
  obtain ⟨rfl,_,_⟩:=hp
  go_wp2_with fail
  go_end0
  exact H4.out.eq (by simp)
 ·rw [HTX.out,if_neg hc] at HL
  rw [HTX.out,if_neg hc]
  have hcc:(0<tightK k)=False∨((0<tightK k)=True/\(tightK k<least)=False):=by
   by_cases h1:0<tightK k
   ·exact .inr ⟨by simp [h1],by simp;omega⟩
   ·exact .inl (by simp;omega)
  rcases hcc with h1 | ⟨h1,h2⟩
  ·have e1:decide ((0:Int)<((tightK k:Nat):Int))=false:=by simp at h1 ⊢;omega
   generalize ((tightK k:Nat):Int)=tk at *
   clear hc HTX hk h1
   go_enter Tryz.func122,Tryz.ntmps122
   go_wp2_with fail
   rw [<- HW0.out]
   refine HTI.out.mono ?_
   rintro e w1 ⟨rfl,hb1⟩
   have hW1:=Wr.of_below (u:=5) hb1 (Nat.le_of_lt H0.out.2.1.lt)
   have H1:=Lh (aI (H0.out.2.1.below hb1) ((Wr.of_below H0.out.1 H0.out.2.2).trans hW1))
   obtain ⟨c0,c1,c2,c3,c4,c5⟩:=HE.out w1 hW1
   clear hb1 hW1
   go_wp2_with fail
   refine (HFO.out l w1 H1.out.2 H1.out.1 HL.out).mono ?_
   rintro e w3 hp
   have H3:=Lh (hp.lead H1.out.2)
   obtain ⟨rfl,_,_⟩:=hp
   go_wp2_with fail
   go_end0
   exact H3.out
  ·have e1:decide ((0:Int)<((tightK k:Nat):Int))=true:=by simp at h1 ⊢;omega
   have e2:decide (((tightK k:Nat):Int)<(least:Int))=false:=by simp at h2 ⊢;omega
   generalize ((tightK k:Nat):Int)=tk at *
   clear hc HTX hk h1 h2
   go_enter Tryz.func122,Tryz.ntmps122
   go_wp2_with fail
   rw [<- HW0.out]
   refine HTI.out.mono ?_
   rintro e w1 ⟨rfl,hb1⟩
   have hW1:=Wr.of_below (u:=5) hb1 (Nat.le_of_lt H0.out.2.1.lt)
   have H1:=Lh (aI (H0.out.2.1.below hb1) ((Wr.of_below H0.out.1 H0.out.2.2).trans hW1))
   obtain ⟨c0,c1,c2,c3,c4,c5⟩:=HE.out w1 hW1
   clear hb1 hW1
   go_wp2_with fail
   refine (HFO.out l w1 H1.out.2 H1.out.1 HL.out).mono ?_
   rintro e w3 hp
   have H3:=Lh (hp.lead H1.out.2)
   obtain ⟨rfl,_,_⟩:=hp
   go_wp2_with fail
   go_end0
   exact H3.out
end Go.Proofs.YtncnnbmeacpboaaGreatDoor
/- The writer of layer syntax: both, form. (written by tools/gen_pwr3.py) -/
namespace Go.Proofs.YtncnnbmeacpboaaGreatDoor
open Go.RowKit Go.Chalk
attribute [local go_sem] Oper.semAt_some
theorem both_any (w0:World) (hg:GS w0) (P:Nat) (hP:w0.heap.size<=P) (k:Int) (g h':Frm) (hG:FormOk w0 P g) (hH:FormOk w0 P h') (sign:Bs) (left right:Nat) (x:FrmA) (l:Bs) (w:World) (hb:Below w0.heap.size w0 w) (h:WAt w P l) (hx:FrmIn w (·<P) (.mk k [] 0 [] [] [g,h']) x) (hlen:l.length+(txtIn g left++(sign++txtIn h' right)).length<=maxTx) :
  Calls Tryz.prog 123 #[.pointer (some ⟨P,0,none⟩),.agg #[.int .i64 k,.string ⟨#[]⟩,.int .i64 0,.slice x.t.a 0 x.t.cap,.slice x.b.a 0 x.b.cap,.slice x.l.a 2 x.l.cap],.string ⟨sign.toArray⟩,.int .i64 left,.int .i64 right] w (WPost w P l (txtIn g left++(sign++txtIn h' right))):=by
 obtain ⟨W0,hW0⟩:∃ W0,W0=w.alloc (.cells #[.int .i64 k,.string ⟨#[]⟩,.int .i64 0,.slice x.t.a 0 x.t.cap,.slice x.b.a 0 x.b.cap,.slice x.l.a 2 x.l.cap] 64):=⟨_,rfl⟩
 have hb0:Below w.heap.size w W0:=by rw [hW0];exact below_new _ _
 have hbx:W0.heap[w.heap.size]?=some (.cells #[.int .i64 k,.string ⟨#[]⟩,.int .i64 0,.slice x.t.a 0 x.t.cap,.slice x.b.a 0 x.b.cap,.slice x.l.a 2 x.l.cap] 64 (0,0)):=by rw [hW0];exact heap_alloc_new _ _
 have hPl:=h.lt
 obtain ⟨hla,hlb⟩:x.l.a=some ⟨x.l.b,x.l.o,none⟩/\x.l.b<P:=by have:=hx.l.at_ (by simp [Frm.l]);exact this
 obtain ⟨y0,hy0,hc0⟩:∃ y,FrmIn w (·<P) g y/\CellsAt w x.l.b (x.l.o+0) (y.cells g):=hx.l.frm 0 (by simp [Frm.l])
 obtain ⟨p0,q0,r0,s0,t0,v0⟩:=CellsAt.six hc0
 obtain ⟨y1,hy1,hc1⟩:∃ y,FrmIn w (·<P) h' y/\CellsAt w x.l.b (x.l.o+6) (y.cells h'):=hx.l.frm 1 (by simp [Frm.l])
 obtain ⟨p1,q1,r1,s1,t1,v1⟩:=CellsAt.six hc1
 have HE:Hid (∀ w',Wr P 5 W0 w'->w'.cell? ⟨w.heap.size,0,none⟩=some (.int .i64 k)/\w'.cell? ⟨w.heap.size,1,none⟩=some (.string ⟨#[]⟩)/\w'.cell? ⟨w.heap.size,2,none⟩=some (.int .i64 0)/\w'.cell? ⟨w.heap.size,3,none⟩=some (.slice x.t.a 0 x.t.cap)/\w'.cell? ⟨w.heap.size,4,none⟩=some (.slice x.b.a 0 x.b.cap)/\w'.cell? ⟨w.heap.size,5,none⟩=some (.slice x.l.a 2 x.l.cap)/\w'.cell? ⟨x.l.b,x.l.o,none⟩=some (.int .i64 g.kind)/\w'.cell? ⟨x.l.b,x.l.o+1,none⟩=some (.string ⟨g.name.toArray⟩)/\w'.cell? ⟨x.l.b,x.l.o+2,none⟩=some (.int .i64 g.n)/\w'.cell? ⟨x.l.b,x.l.o+3,none⟩=some (.slice y0.t.a g.terms.length y0.t.cap)/\w'.cell? ⟨x.l.b,x.l.o+4,none⟩=some (.slice y0.b.a g.binds.length y0.b.cap)/\w'.cell? ⟨x.l.b,x.l.o+5,none⟩=some (.slice y0.l.a g.l.length y0.l.cap)/\w'.cell? ⟨x.l.b,x.l.o+6,none⟩=some (.int .i64 h'.kind)/\w'.cell? ⟨x.l.b,x.l.o+7,none⟩=some (.string ⟨h'.name.toArray⟩)/\w'.cell? ⟨x.l.b,x.l.o+8,none⟩=some (.int .i64 h'.n)/\w'.cell? ⟨x.l.b,x.l.o+9,none⟩=some (.slice y1.t.a h'.terms.length y1.t.cap)/\w'.cell? ⟨x.l.b,x.l.o+10,none⟩=some (.slice y1.b.a h'.binds.length y1.b.cap)/\w'.cell? ⟨x.l.b,x.l.o+11,none⟩=some (.slice y1.l.a h'.l.length y1.l.cap)):=Lh (fun w' hW=>by
  have e0:=hW.kept hbx (by decide) (by omega)
  have hlow:=(Wr.of_below (u:=5) hb0 (Nat.le_of_lt hPl)).below.trans hW.below
  exact ⟨cH e0 rfl,cH e0 rfl,cH e0 rfl,cH e0 rfl,cH e0 rfl,cH e0 rfl,(hlow.cell (p:=⟨x.l.b,x.l.o,none⟩) hlb).trans (by simpa using p0),(hlow.cell (p:=⟨x.l.b,x.l.o+1,none⟩) hlb).trans (by simpa using q0),(hlow.cell (p:=⟨x.l.b,x.l.o+2,none⟩) hlb).trans (by simpa using r0),(hlow.cell (p:=⟨x.l.b,x.l.o+3,none⟩) hlb).trans (by simpa using s0),(hlow.cell (p:=⟨x.l.b,x.l.o+4,none⟩) hlb).trans (by simpa using t0),(hlow.cell (p:=⟨x.l.b,x.l.o+5,none⟩) hlb).trans (by simpa using v0),(hlow.cell (p:=⟨x.l.b,x.l.o+6,none⟩) hlb).trans (by simpa using p1),(hlow.cell (p:=⟨x.l.b,x.l.o+7,none⟩) hlb).trans (by simpa using q1),(hlow.cell (p:=⟨x.l.b,x.l.o+8,none⟩) hlb).trans (by simpa using r1),(hlow.cell (p:=⟨x.l.b,x.l.o+9,none⟩) hlb).trans (by simpa using s1),(hlow.cell (p:=⟨x.l.b,x.l.o+10,none⟩) hlb).trans (by simpa using t1),(hlow.cell (p:=⟨x.l.b,x.l.o+11,none⟩) hlb).trans (by simpa using v1)⟩)
 have H0:=Lh (aI (WPost.start (h.below hb0)) (aI (Wr.refl P 5 W0) (Wr.of_below (u:=5) hb0 (Nat.le_of_lt hPl))))
 have HWI0:=Lh (fun (l':Bs) (W:World) (hW:Wr P 5 w W) (hA:WAt W P l') (hl:l'.length+(txtIn g left).length<=maxTx)=>within_any w0 P hP g hG y0 left l' W (hb.trans (hW.below.mono hP)) hA (hy0.agree (agree_of_below hW.below)) hl)
 have HWI1:=Lh (fun (l':Bs) (W:World) (hW:Wr P 5 w W) (hA:WAt W P l') (hl:l'.length+(txtIn h' right).length<=maxTx)=>within_any w0 P hP h' hH y1 right l' W (hb.trans (hW.below.mono hP)) hA (hy1.agree (agree_of_below hW.below)) hl)
 have z0:w.cell? ⟨x.l.b,x.l.o,none⟩=some (.int .i64 g.kind):=by simpa using p0
 have z1:w.cell? ⟨x.l.b,x.l.o+1,none⟩=some (.string ⟨g.name.toArray⟩):=by simpa using q0
 have z2:w.cell? ⟨x.l.b,x.l.o+2,none⟩=some (.int .i64 g.n):=by simpa using r0
 have z3:w.cell? ⟨x.l.b,x.l.o+3,none⟩=some (.slice y0.t.a g.terms.length y0.t.cap):=by simpa using s0
 have z4:w.cell? ⟨x.l.b,x.l.o+4,none⟩=some (.slice y0.b.a g.binds.length y0.b.cap):=by simpa using t0
 have z5:w.cell? ⟨x.l.b,x.l.o+5,none⟩=some (.slice y0.l.a g.l.length y0.l.cap):=by simpa using v0
 have z6:w.cell? ⟨x.l.b,x.l.o+6,none⟩=some (.int .i64 h'.kind):=by simpa using p1
 have z7:w.cell? ⟨x.l.b,x.l.o+7,none⟩=some (.string ⟨h'.name.toArray⟩):=by simpa using q1
 have z8:w.cell? ⟨x.l.b,x.l.o+8,none⟩=some (.int .i64 h'.n):=by simpa using r1
 have z9:w.cell? ⟨x.l.b,x.l.o+9,none⟩=some (.slice y1.t.a h'.terms.length y1.t.cap):=by simpa using s1
 have z10:w.cell? ⟨x.l.b,x.l.o+10,none⟩=some (.slice y1.b.a h'.binds.length y1.b.cap):=by simpa using t1
 have z11:w.cell? ⟨x.l.b,x.l.o+11,none⟩=some (.slice y1.l.a h'.l.length y1.l.cap):=by simpa using v1
 have hlw:x.l.b<w.heap.size:=by omega
 have HW0:=Lh hW0
 have HL:=Lh hlen
 clear hb h hx hlen hb0 hbx hW0 hP hg hlb hy0 hc0 p0 q0 r0 s0 t0 v0 hy1 hc1 p1 q1 r1 s1 t1 v1 hG hH
 rw [hla]
 have HLA:=Lh hla
 rw [hla] at HW0 HE
 clear hla
 go_enter Tryz.func123,Tryz.ntmps123
 go_wp2_with fail
 rw [<- HW0.out]
 refine (HWI0.out _ W0 H0.out.2.2 H0.out.1.2.1 (by have h:=HL.out;simp only [List.length_append,List.length_cons,List.length_nil] at h ⊢;omega)).mono ?_
 rintro e w1 hp
 have H1:=Lh (aI (H0.out.1.then hp) (aI (H0.out.2.1.trans hp.2.2) (H0.out.2.2.trans hp.2.2)))
 obtain ⟨rfl,_,_⟩:=hp
 clear z0 z1 z2 z3 z4 z5 z6 z7 z8 z9 z10 z11 hlw
 obtain ⟨c0,c1,c2,c3,c4,c5,c6,c7,c8,c9,c10,c11,c12,c13,c14,c15,c16,c17⟩:=HE.out w1 H1.out.2.1
 go_wp2_with fail
 refine (put1 P sign _ w1 rfl H1.out.1.2.1 (by have h:=HL.out;simp only [List.length_append,List.length_cons,List.length_nil] at h ⊢;omega)).mono ?_
 rintro e w2 hp
 have H2:=Lh (aI (H1.out.1.then hp) (aI (H1.out.2.1.trans hp.2.2) (H1.out.2.2.trans hp.2.2)))
 obtain ⟨rfl,_,_⟩:=hp
 clear c0 c1 c2 c3 c4 c5 c6 c7 c8 c9 c10 c11 c12 c13 c14 c15 c16 c17
 obtain ⟨c0,c1,c2,c3,c4,c5,c6,c7,c8,c9,c10,c11,c12,c13,c14,c15,c16,c17⟩:=HE.out w2 H2.out.2.1
 go_wp2_with fail
 refine (HWI1.out _ w2 H2.out.2.2 H2.out.1.2.1 (by have h:=HL.out;simp only [List.length_append,List.length_cons,List.length_nil] at h ⊢;omega)).mono ?_
 rintro e w3 hp
 have H3:=Lh (aI (H2.out.1.then hp) (aI (H2.out.2.1.trans hp.2.2) (H2.out.2.2.trans hp.2.2)))
 obtain ⟨rfl,_,_⟩:=hp
 clear c0 c1 c2 c3 c4 c5 c6 c7 c8 c9 c10 c11 c12 c13 c14 c15 c16 c17
 go_wp2_with fail
 go_end0
 exact (H3.out.1.lead H0.out.2.2).eq (by first | rfl | simp [txtIn,tightK])
theorem wform_1 (w0:World) (hg:GS w0) (P:Nat) (hP:w0.heap.size<=P)  (x:FrmA) (l:Bs) (w:World) (hb:Below w0.heap.size w0 w) (h:WAt w P l) (hx:FrmIn w (·<P) (.mk 1 [] 0 [] [] []) x) (hlen:l.length+([116,114,117,101]).length<=maxTx) :
  Calls Tryz.prog 75 #[.pointer (some ⟨P,0,none⟩),.agg #[.int .i64 1,.string ⟨#[]⟩,.int .i64 0,.slice x.t.a 0 x.t.cap,.slice x.b.a 0 x.b.cap,.slice x.l.a 0 x.l.cap]] w (WPost w P l ([116,114,117,101])):=by
 obtain ⟨W0,hW0⟩:∃ W0,W0=w.alloc (.cells #[.int .i64 1,.string ⟨#[]⟩,.int .i64 0,.slice x.t.a 0 x.t.cap,.slice x.b.a 0 x.b.cap,.slice x.l.a 0 x.l.cap] 64):=⟨_,rfl⟩
 have hb0:Below w.heap.size w W0:=by rw [hW0];exact below_new _ _
 have hbx:W0.heap[w.heap.size]?=some (.cells #[.int .i64 1,.string ⟨#[]⟩,.int .i64 0,.slice x.t.a 0 x.t.cap,.slice x.b.a 0 x.b.cap,.slice x.l.a 0 x.l.cap] 64 (0,0)):=by rw [hW0];exact heap_alloc_new _ _
 have hPl:=h.lt
 have HE:Hid (∀ w',Wr P 5 W0 w'->w'.cell? ⟨w.heap.size,0,none⟩=some (.int .i64 1)/\w'.cell? ⟨w.heap.size,1,none⟩=some (.string ⟨#[]⟩)/\w'.cell? ⟨w.heap.size,2,none⟩=some (.int .i64 0)/\w'.cell? ⟨w.heap.size,3,none⟩=some (.slice x.t.a 0 x.t.cap)/\w'.cell? ⟨w.heap.size,4,none⟩=some (.slice x.b.a 0 x.b.cap)/\w'.cell? ⟨w.heap.size,5,none⟩=some (.slice x.l.a 0 x.l.cap)):=Lh (fun w' hW=>by
  have e0:=hW.kept hbx (by decide) (by omega)
  have hlow:=(Wr.of_below (u:=5) hb0 (Nat.le_of_lt hPl)).below.trans hW.below
  exact ⟨cH e0 rfl,cH e0 rfl,cH e0 rfl,cH e0 rfl,cH e0 rfl,cH e0 rfl⟩)
 have H0:=Lh (aI (WPost.start (h.below hb0)) (aI (Wr.refl P 5 W0) (Wr.of_below (u:=5) hb0 (Nat.le_of_lt hPl))))
 have HW0:=Lh hW0
 have HL:=Lh hlen
 clear hb h hx hlen hb0 hbx hW0 hP hg
 go_enter Tryz.func75,Tryz.ntmps75
 go_wp2_with fail
 refine (put1 P [116,114,117,101] l _ (by simp) (by have h1:=H0.out.1.2.1;rw [List.append_nil,HW0.out] at h1;exact h1) (by have h:=HL.out;simp only [List.length_append,List.length_cons,List.length_nil] at h ⊢;omega)).mono ?_
 rintro e w1 hp
 have H1:=Lh hp
 obtain ⟨rfl,_,_⟩:=hp
 go_wp2_with fail
 go_end0
 exact (WPost.lead (by rw [<- HW0.out];exact H0.out.2.2) H1.out).eq (by first | rfl | simp)
theorem wform_2 (w0:World) (hg:GS w0) (P:Nat) (hP:w0.heap.size<=P)  (x:FrmA) (l:Bs) (w:World) (hb:Below w0.heap.size w0 w) (h:WAt w P l) (hx:FrmIn w (·<P) (.mk 2 [] 0 [] [] []) x) (hlen:l.length+([102,97,108,115,101]).length<=maxTx) :
  Calls Tryz.prog 75 #[.pointer (some ⟨P,0,none⟩),.agg #[.int .i64 2,.string ⟨#[]⟩,.int .i64 0,.slice x.t.a 0 x.t.cap,.slice x.b.a 0 x.b.cap,.slice x.l.a 0 x.l.cap]] w (WPost w P l ([102,97,108,115,101])):=by
 obtain ⟨W0,hW0⟩:∃ W0,W0=w.alloc (.cells #[.int .i64 2,.string ⟨#[]⟩,.int .i64 0,.slice x.t.a 0 x.t.cap,.slice x.b.a 0 x.b.cap,.slice x.l.a 0 x.l.cap] 64):=⟨_,rfl⟩
 have hb0:Below w.heap.size w W0:=by rw [hW0];exact below_new _ _
 have hbx:W0.heap[w.heap.size]?=some (.cells #[.int .i64 2,.string ⟨#[]⟩,.int .i64 0,.slice x.t.a 0 x.t.cap,.slice x.b.a 0 x.b.cap,.slice x.l.a 0 x.l.cap] 64 (0,0)):=by rw [hW0];exact heap_alloc_new _ _
 have hPl:=h.lt
 have HE:Hid (∀ w',Wr P 5 W0 w'->w'.cell? ⟨w.heap.size,0,none⟩=some (.int .i64 2)/\w'.cell? ⟨w.heap.size,1,none⟩=some (.string ⟨#[]⟩)/\w'.cell? ⟨w.heap.size,2,none⟩=some (.int .i64 0)/\w'.cell? ⟨w.heap.size,3,none⟩=some (.slice x.t.a 0 x.t.cap)/\w'.cell? ⟨w.heap.size,4,none⟩=some (.slice x.b.a 0 x.b.cap)/\w'.cell? ⟨w.heap.size,5,none⟩=some (.slice x.l.a 0 x.l.cap)):=Lh (fun w' hW=>by
  have e0:=hW.kept hbx (by decide) (by omega)
  have hlow:=(Wr.of_below (u:=5) hb0 (Nat.le_of_lt hPl)).below.trans hW.below
  exact ⟨cH e0 rfl,cH e0 rfl,cH e0 rfl,cH e0 rfl,cH e0 rfl,cH e0 rfl⟩)
 have H0:=Lh (aI (WPost.start (h.below hb0)) (aI (Wr.refl P 5 W0) (Wr.of_below (u:=5) hb0 (Nat.le_of_lt hPl))))
 have HW0:=Lh hW0
 have HL:=Lh hlen
 clear hb h hx hlen hb0 hbx hW0 hP hg
 go_enter Tryz.func75,Tryz.ntmps75
 go_wp2_with fail
 refine (put1 P [102,97,108,115,101] l _ (by simp) (by have h1:=H0.out.1.2.1;rw [List.append_nil,HW0.out] at h1;exact h1) (by have h:=HL.out;simp only [List.length_append,List.length_cons,List.length_nil] at h ⊢;omega)).mono ?_
 rintro e w1 hp
 have H1:=Lh hp
 obtain ⟨rfl,_,_⟩:=hp
 go_wp2_with fail
 go_end0
 exact (WPost.lead (by rw [<- HW0.out];exact H0.out.2.2) H1.out).eq (by first | rfl | simp)
theorem wform_cmp (w0:World) (hg:GS w0) (P:Nat) (hP:w0.heap.size<=P) (s:Bs) (t u:Trm) (ht:termedF t=true) (hu:termedF u=true) (x:FrmA) (l:Bs) (w:World) (hb:Below w0.heap.size w0 w) (h:WAt w P l) (hx:FrmIn w (·<P) (.mk 9 s 0 [t,u] [] []) x) (hlen:l.length+(txtTerm t++([32]++(s++([32]++txtTerm u)))).length<=maxTx) :
  Calls Tryz.prog 75 #[.pointer (some ⟨P,0,none⟩),.agg #[.int .i64 9,.string ⟨s.toArray⟩,.int .i64 0,.slice x.t.a 2 x.t.cap,.slice x.b.a 0 x.b.cap,.slice x.l.a 0 x.l.cap]] w (WPost w P l (txtTerm t++([32]++(s++([32]++txtTerm u))))):=by
 obtain ⟨W0,hW0⟩:∃ W0,W0=w.alloc (.cells #[.int .i64 9,.string ⟨s.toArray⟩,.int .i64 0,.slice x.t.a 2 x.t.cap,.slice x.b.a 0 x.b.cap,.slice x.l.a 0 x.l.cap] 64):=⟨_,rfl⟩
 have hb0:Below w.heap.size w W0:=by rw [hW0];exact below_new _ _
 have hbx:W0.heap[w.heap.size]?=some (.cells #[.int .i64 9,.string ⟨s.toArray⟩,.int .i64 0,.slice x.t.a 2 x.t.cap,.slice x.b.a 0 x.b.cap,.slice x.l.a 0 x.l.cap] 64 (0,0)):=by rw [hW0];exact heap_alloc_new _ _
 have hPl:=h.lt
 obtain ⟨hta,htb⟩:x.t.a=some ⟨x.t.b,x.t.o,none⟩/\x.t.b<P:=by have:=hx.terms.at_ (by simp [Frm.terms]);exact this
 obtain ⟨_,_,_,hfl,_⟩:=hx.terms.flat Trm.flatT
 obtain ⟨p0,q0,r0⟩:=hfl.three 0 (by simp [Frm.terms]) rfl
 obtain ⟨p1,q1,r1⟩:=hfl.three 1 (by simp [Frm.terms]) rfl
 have HE:Hid (∀ w',Wr P 5 W0 w'->w'.cell? ⟨w.heap.size,0,none⟩=some (.int .i64 9)/\w'.cell? ⟨w.heap.size,1,none⟩=some (.string ⟨s.toArray⟩)/\w'.cell? ⟨w.heap.size,2,none⟩=some (.int .i64 0)/\w'.cell? ⟨w.heap.size,3,none⟩=some (.slice x.t.a 2 x.t.cap)/\w'.cell? ⟨w.heap.size,4,none⟩=some (.slice x.b.a 0 x.b.cap)/\w'.cell? ⟨w.heap.size,5,none⟩=some (.slice x.l.a 0 x.l.cap)/\w'.cell? ⟨x.t.b,x.t.o,none⟩=some (.int .i64 t.kind)/\w'.cell? ⟨x.t.b,x.t.o+1,none⟩=some (.string ⟨t.name.toArray⟩)/\w'.cell? ⟨x.t.b,x.t.o+2,none⟩=some (.int .i64 t.n)/\w'.cell? ⟨x.t.b,x.t.o+3,none⟩=some (.int .i64 u.kind)/\w'.cell? ⟨x.t.b,x.t.o+4,none⟩=some (.string ⟨u.name.toArray⟩)/\w'.cell? ⟨x.t.b,x.t.o+5,none⟩=some (.int .i64 u.n)):=Lh (fun w' hW=>by
  have e0:=hW.kept hbx (by decide) (by omega)
  have hlow:=(Wr.of_below (u:=5) hb0 (Nat.le_of_lt hPl)).below.trans hW.below
  exact ⟨cH e0 rfl,cH e0 rfl,cH e0 rfl,cH e0 rfl,cH e0 rfl,cH e0 rfl,(hlow.cell (p:=⟨x.t.b,x.t.o,none⟩) htb).trans (by simpa [Frm.terms,Nat.add_assoc] using p0),(hlow.cell (p:=⟨x.t.b,x.t.o+1,none⟩) htb).trans (by simpa [Frm.terms,Nat.add_assoc] using q0),(hlow.cell (p:=⟨x.t.b,x.t.o+2,none⟩) htb).trans (by simpa [Frm.terms,Nat.add_assoc] using r0),(hlow.cell (p:=⟨x.t.b,x.t.o+3,none⟩) htb).trans (by simpa [Frm.terms,Nat.add_assoc] using p1),(hlow.cell (p:=⟨x.t.b,x.t.o+4,none⟩) htb).trans (by simpa [Frm.terms,Nat.add_assoc] using q1),(hlow.cell (p:=⟨x.t.b,x.t.o+5,none⟩) htb).trans (by simpa [Frm.terms,Nat.add_assoc] using r1)⟩)
 have H0:=Lh (aI (WPost.start (h.below hb0)) (aI (Wr.refl P 5 W0) (Wr.of_below (u:=5) hb0 (Nat.le_of_lt hPl))))
 have HT0:=Lh (fun (l':Bs) (W:World) (hW:Wr P 5 w W) (hA:WAt W P l') (hl:l'.length+(txtTerm t).length<=maxTx)=>wterm_any w0 hg P t l' W (hb.trans (hW.below.mono hP)) hA ht hl)
 have HT1:=Lh (fun (l':Bs) (W:World) (hW:Wr P 5 w W) (hA:WAt W P l') (hl:l'.length+(txtTerm u).length<=maxTx)=>wterm_any w0 hg P u l' W (hb.trans (hW.below.mono hP)) hA hu hl)
 have z0:w.cell? ⟨x.t.b,x.t.o,none⟩=some (.int .i64 t.kind):=by simpa [Frm.terms,Nat.add_assoc] using p0
 have z1:w.cell? ⟨x.t.b,x.t.o+1,none⟩=some (.string ⟨t.name.toArray⟩):=by simpa [Frm.terms,Nat.add_assoc] using q0
 have z2:w.cell? ⟨x.t.b,x.t.o+2,none⟩=some (.int .i64 t.n):=by simpa [Frm.terms,Nat.add_assoc] using r0
 have z3:w.cell? ⟨x.t.b,x.t.o+3,none⟩=some (.int .i64 u.kind):=by simpa [Frm.terms,Nat.add_assoc] using p1
 have z4:w.cell? ⟨x.t.b,x.t.o+4,none⟩=some (.string ⟨u.name.toArray⟩):=by simpa [Frm.terms,Nat.add_assoc] using q1
 have z5:w.cell? ⟨x.t.b,x.t.o+5,none⟩=some (.int .i64 u.n):=by simpa [Frm.terms,Nat.add_assoc] using r1
 have htw:x.t.b<w.heap.size:=by omega
 have HW0:=Lh hW0
 have HL:=Lh hlen
 clear hb h hx hlen hb0 hbx hW0 hP hg htb hfl p0 q0 r0 p1 q1 r1 ht hu
 rw [hta]
 have HTA:=Lh hta
 rw [hta] at HW0 HE
 clear hta
 go_enter Tryz.func75,Tryz.ntmps75
 go_wp2_with fail
 rw [<- HW0.out]
 refine (HT0.out _ W0 H0.out.2.2 H0.out.1.2.1 (by have h:=HL.out;simp only [List.length_append,List.length_cons,List.length_nil] at h ⊢;omega)).mono ?_
 rintro e w1 hp
 have H1:=Lh (aI (H0.out.1.then hp) (aI (H0.out.2.1.trans hp.2.2) (H0.out.2.2.trans hp.2.2)))
 obtain ⟨rfl,_,_⟩:=hp
 clear z0 z1 z2 z3 z4 z5 htw
 obtain ⟨c0,c1,c2,c3,c4,c5,c6,c7,c8,c9,c10,c11⟩:=HE.out w1 H1.out.2.1
 go_wp2_with fail
 refine (put3 P [32] s [32] _ w1 rfl H1.out.1.2.1 (by have h:=HL.out;simp only [List.length_append,List.length_cons,List.length_nil] at h ⊢;omega)).mono ?_
 rintro e w2 hp
 have H2:=Lh (aI (H1.out.1.then hp) (aI (H1.out.2.1.trans hp.2.2) (H1.out.2.2.trans hp.2.2)))
 obtain ⟨rfl,_,_⟩:=hp
 clear c0 c1 c2 c3 c4 c5 c6 c7 c8 c9 c10 c11
 obtain ⟨c0,c1,c2,c3,c4,c5,c6,c7,c8,c9,c10,c11⟩:=HE.out w2 H2.out.2.1
 go_wp2_with fail
 refine (HT1.out _ w2 H2.out.2.2 H2.out.1.2.1 (by have h:=HL.out;simp only [List.length_append,List.length_cons,List.length_nil] at h ⊢;omega)).mono ?_
 rintro e w3 hp
 have H3:=Lh (aI (H2.out.1.then hp) (aI (H2.out.2.1.trans hp.2.2) (H2.out.2.2.trans hp.2.2)))
 obtain ⟨rfl,_,_⟩:=hp
 clear c0 c1 c2 c3 c4 c5 c6 c7 c8 c9 c10 c11
 go_wp2_with fail
 go_end0
 exact (H3.out.1.lead H0.out.2.2).eq (by first | rfl | simp [txtIn,tightK])
theorem wform_not (w0:World) (hg:GS w0) (P:Nat) (hP:w0.heap.size<=P) (g:Frm) (hG:FormOk w0 P g) (x:FrmA) (l:Bs) (w:World) (hb:Below w0.heap.size w0 w) (h:WAt w P l) (hx:FrmIn w (·<P) (.mk 10 [] 0 [] [] [g]) x) (hlen:l.length+([33]++txtIn g 4).length<=maxTx) :
  Calls Tryz.prog 75 #[.pointer (some ⟨P,0,none⟩),.agg #[.int .i64 10,.string ⟨#[]⟩,.int .i64 0,.slice x.t.a 0 x.t.cap,.slice x.b.a 0 x.b.cap,.slice x.l.a 1 x.l.cap]] w (WPost w P l ([33]++txtIn g 4)):=by
 obtain ⟨W0,hW0⟩:∃ W0,W0=w.alloc (.cells #[.int .i64 10,.string ⟨#[]⟩,.int .i64 0,.slice x.t.a 0 x.t.cap,.slice x.b.a 0 x.b.cap,.slice x.l.a 1 x.l.cap] 64):=⟨_,rfl⟩
 have hb0:Below w.heap.size w W0:=by rw [hW0];exact below_new _ _
 have hbx:W0.heap[w.heap.size]?=some (.cells #[.int .i64 10,.string ⟨#[]⟩,.int .i64 0,.slice x.t.a 0 x.t.cap,.slice x.b.a 0 x.b.cap,.slice x.l.a 1 x.l.cap] 64 (0,0)):=by rw [hW0];exact heap_alloc_new _ _
 have hPl:=h.lt
 obtain ⟨hla,hlb⟩:x.l.a=some ⟨x.l.b,x.l.o,none⟩/\x.l.b<P:=by have:=hx.l.at_ (by simp [Frm.l]);exact this
 obtain ⟨y0,hy0,hc0⟩:∃ y,FrmIn w (·<P) g y/\CellsAt w x.l.b (x.l.o+0) (y.cells g):=hx.l.frm 0 (by simp [Frm.l])
 obtain ⟨p0,q0,r0,s0,t0,v0⟩:=CellsAt.six hc0
 have HE:Hid (∀ w',Wr P 5 W0 w'->w'.cell? ⟨w.heap.size,0,none⟩=some (.int .i64 10)/\w'.cell? ⟨w.heap.size,1,none⟩=some (.string ⟨#[]⟩)/\w'.cell? ⟨w.heap.size,2,none⟩=some (.int .i64 0)/\w'.cell? ⟨w.heap.size,3,none⟩=some (.slice x.t.a 0 x.t.cap)/\w'.cell? ⟨w.heap.size,4,none⟩=some (.slice x.b.a 0 x.b.cap)/\w'.cell? ⟨w.heap.size,5,none⟩=some (.slice x.l.a 1 x.l.cap)/\w'.cell? ⟨x.l.b,x.l.o,none⟩=some (.int .i64 g.kind)/\w'.cell? ⟨x.l.b,x.l.o+1,none⟩=some (.string ⟨g.name.toArray⟩)/\w'.cell? ⟨x.l.b,x.l.o+2,none⟩=some (.int .i64 g.n)/\w'.cell? ⟨x.l.b,x.l.o+3,none⟩=some (.slice y0.t.a g.terms.length y0.t.cap)/\w'.cell? ⟨x.l.b,x.l.o+4,none⟩=some (.slice y0.b.a g.binds.length y0.b.cap)/\w'.cell? ⟨x.l.b,x.l.o+5,none⟩=some (.slice y0.l.a g.l.length y0.l.cap)):=Lh (fun w' hW=>by
  have e0:=hW.kept hbx (by decide) (by omega)
  have hlow:=(Wr.of_below (u:=5) hb0 (Nat.le_of_lt hPl)).below.trans hW.below
  exact ⟨cH e0 rfl,cH e0 rfl,cH e0 rfl,cH e0 rfl,cH e0 rfl,cH e0 rfl,(hlow.cell (p:=⟨x.l.b,x.l.o,none⟩) hlb).trans (by simpa using p0),(hlow.cell (p:=⟨x.l.b,x.l.o+1,none⟩) hlb).trans (by simpa using q0),(hlow.cell (p:=⟨x.l.b,x.l.o+2,none⟩) hlb).trans (by simpa using r0),(hlow.cell (p:=⟨x.l.b,x.l.o+3,none⟩) hlb).trans (by simpa using s0),(hlow.cell (p:=⟨x.l.b,x.l.o+4,none⟩) hlb).trans (by simpa using t0),(hlow.cell (p:=⟨x.l.b,x.l.o+5,none⟩) hlb).trans (by simpa using v0)⟩)
 have H0:=Lh (aI (WPost.start (h.below hb0)) (aI (Wr.refl P 5 W0) (Wr.of_below (u:=5) hb0 (Nat.le_of_lt hPl))))
 have HWI0:=Lh (fun (l':Bs) (W:World) (hW:Wr P 5 w W) (hA:WAt W P l') (hl:l'.length+(txtIn g 4).length<=maxTx)=>within_any w0 P hP g hG y0 4 l' W (hb.trans (hW.below.mono hP)) hA (hy0.agree (agree_of_below hW.below)) hl)
 have z0:w.cell? ⟨x.l.b,x.l.o,none⟩=some (.int .i64 g.kind):=by simpa using p0
 have z1:w.cell? ⟨x.l.b,x.l.o+1,none⟩=some (.string ⟨g.name.toArray⟩):=by simpa using q0
 have z2:w.cell? ⟨x.l.b,x.l.o+2,none⟩=some (.int .i64 g.n):=by simpa using r0
 have z3:w.cell? ⟨x.l.b,x.l.o+3,none⟩=some (.slice y0.t.a g.terms.length y0.t.cap):=by simpa using s0
 have z4:w.cell? ⟨x.l.b,x.l.o+4,none⟩=some (.slice y0.b.a g.binds.length y0.b.cap):=by simpa using t0
 have z5:w.cell? ⟨x.l.b,x.l.o+5,none⟩=some (.slice y0.l.a g.l.length y0.l.cap):=by simpa using v0
 have hlw:x.l.b<w.heap.size:=by omega
 have HW0:=Lh hW0
 have HL:=Lh hlen
 clear hb h hx hlen hb0 hbx hW0 hP hg hlb hy0 hc0 p0 q0 r0 s0 t0 v0 hG
 rw [hla]
 have HLA:=Lh hla
 rw [hla] at HW0 HE
 clear hla
 go_enter Tryz.func75,Tryz.ntmps75
 go_wp2_with fail
 rw [<- HW0.out]
 refine (put1 P [33] _ W0 (by rw [HW0.out];simp) H0.out.1.2.1 (by have h:=HL.out;simp only [List.length_append,List.length_cons,List.length_nil] at h ⊢;omega)).mono ?_
 rintro e w1 hp
 have H1:=Lh (aI (H0.out.1.then hp) (aI (H0.out.2.1.trans hp.2.2) (H0.out.2.2.trans hp.2.2)))
 obtain ⟨rfl,_,_⟩:=hp
 clear z0 z1 z2 z3 z4 z5 hlw
 obtain ⟨c0,c1,c2,c3,c4,c5,c6,c7,c8,c9,c10,c11⟩:=HE.out w1 H1.out.2.1
 go_wp2_with fail
 refine (HWI0.out _ w1 H1.out.2.2 H1.out.1.2.1 (by have h:=HL.out;simp only [List.length_append,List.length_cons,List.length_nil] at h ⊢;omega)).mono ?_
 rintro e w2 hp
 have H2:=Lh (aI (H1.out.1.then hp) (aI (H1.out.2.1.trans hp.2.2) (H1.out.2.2.trans hp.2.2)))
 obtain ⟨rfl,_,_⟩:=hp
 clear c0 c1 c2 c3 c4 c5 c6 c7 c8 c9 c10 c11
 go_wp2_with fail
 go_end0
 exact (H2.out.1.lead H0.out.2.2).eq (by first | rfl | simp [txtIn,tightK])
theorem wform_11 (w0:World) (hg:GS w0) (P:Nat) (hP:w0.heap.size<=P) (g h':Frm) (hG:FormOk w0 P g) (hH:FormOk w0 P h') (x:FrmA) (l:Bs) (w:World) (hb:Below w0.heap.size w0 w) (h:WAt w P l) (hx:FrmIn w (·<P) (.mk 11 [] 0 [] [] [g,h']) x) (hlen:l.length+(txtIn g 3++([32,38,32]++txtIn h' 4)).length<=maxTx) :
  Calls Tryz.prog 75 #[.pointer (some ⟨P,0,none⟩),.agg #[.int .i64 11,.string ⟨#[]⟩,.int .i64 0,.slice x.t.a 0 x.t.cap,.slice x.b.a 0 x.b.cap,.slice x.l.a 2 x.l.cap]] w (WPost w P l (txtIn g 3++([32,38,32]++txtIn h' 4))):=by
 obtain ⟨W0,hW0⟩:∃ W0,W0=w.alloc (.cells #[.int .i64 11,.string ⟨#[]⟩,.int .i64 0,.slice x.t.a 0 x.t.cap,.slice x.b.a 0 x.b.cap,.slice x.l.a 2 x.l.cap] 64):=⟨_,rfl⟩
 have hb0:Below w.heap.size w W0:=by rw [hW0];exact below_new _ _
 have hbx:W0.heap[w.heap.size]?=some (.cells #[.int .i64 11,.string ⟨#[]⟩,.int .i64 0,.slice x.t.a 0 x.t.cap,.slice x.b.a 0 x.b.cap,.slice x.l.a 2 x.l.cap] 64 (0,0)):=by rw [hW0];exact heap_alloc_new _ _
 have hPl:=h.lt
 have HE:Hid (∀ w',Wr P 5 W0 w'->w'.cell? ⟨w.heap.size,0,none⟩=some (.int .i64 11)/\w'.cell? ⟨w.heap.size,1,none⟩=some (.string ⟨#[]⟩)/\w'.cell? ⟨w.heap.size,2,none⟩=some (.int .i64 0)/\w'.cell? ⟨w.heap.size,3,none⟩=some (.slice x.t.a 0 x.t.cap)/\w'.cell? ⟨w.heap.size,4,none⟩=some (.slice x.b.a 0 x.b.cap)/\w'.cell? ⟨w.heap.size,5,none⟩=some (.slice x.l.a 2 x.l.cap)):=Lh (fun w' hW=>by
  have e0:=hW.kept hbx (by decide) (by omega)
  have hlow:=(Wr.of_below (u:=5) hb0 (Nat.le_of_lt hPl)).below.trans hW.below
  exact ⟨cH e0 rfl,cH e0 rfl,cH e0 rfl,cH e0 rfl,cH e0 rfl,cH e0 rfl⟩)
 have H0:=Lh (aI (WPost.start (h.below hb0)) (aI (Wr.refl P 5 W0) (Wr.of_below (u:=5) hb0 (Nat.le_of_lt hPl))))
 have HBO:=Lh (fun (l':Bs) (W:World) (hW:Wr P 5 w W) (hA:WAt W P l') (hl:l'.length+(txtIn g 3++([32,38,32]++txtIn h' 4)).length<=maxTx)=>both_any w0 hg P hP 11 g h' hG hH [32,38,32] 3 4 x l' W (hb.trans (hW.below.mono hP)) hA (hx.agree (agree_of_below hW.below)) hl)
 have HW0:=Lh hW0
 have HL:=Lh hlen
 clear hb h hx hlen hb0 hbx hW0 hP hg hG hH
 go_enter Tryz.func75,Tryz.ntmps75
 go_wp2_with fail
 rw [<- HW0.out]
 refine (HBO.out _ W0 H0.out.2.2 H0.out.1.2.1 (by have h:=HL.out;simp only [List.length_append,List.length_cons,List.length_nil] at h ⊢;omega)).mono ?_
 rintro e w1 hp
 have H1:=Lh (aI (H0.out.1.then hp) (aI (H0.out.2.1.trans hp.2.2) (H0.out.2.2.trans hp.2.2)))
 obtain ⟨rfl,_,_⟩:=hp
 go_wp2_with fail
 go_end0
 exact (H1.out.1.lead H0.out.2.2).eq (by first | rfl | simp [txtIn,tightK])
theorem wform_12 (w0:World) (hg:GS w0) (P:Nat) (hP:w0.heap.size<=P) (g h':Frm) (hG:FormOk w0 P g) (hH:FormOk w0 P h') (x:FrmA) (l:Bs) (w:World) (hb:Below w0.heap.size w0 w) (h:WAt w P l) (hx:FrmIn w (·<P) (.mk 12 [] 0 [] [] [g,h']) x) (hlen:l.length+(txtIn g 2++([32,124,32]++txtIn h' 3)).length<=maxTx) :
  Calls Tryz.prog 75 #[.pointer (some ⟨P,0,none⟩),.agg #[.int .i64 12,.string ⟨#[]⟩,.int .i64 0,.slice x.t.a 0 x.t.cap,.slice x.b.a 0 x.b.cap,.slice x.l.a 2 x.l.cap]] w (WPost w P l (txtIn g 2++([32,124,32]++txtIn h' 3))):=by
 obtain ⟨W0,hW0⟩:∃ W0,W0=w.alloc (.cells #[.int .i64 12,.string ⟨#[]⟩,.int .i64 0,.slice x.t.a 0 x.t.cap,.slice x.b.a 0 x.b.cap,.slice x.l.a 2 x.l.cap] 64):=⟨_,rfl⟩
 have hb0:Below w.heap.size w W0:=by rw [hW0];exact below_new _ _
 have hbx:W0.heap[w.heap.size]?=some (.cells #[.int .i64 12,.string ⟨#[]⟩,.int .i64 0,.slice x.t.a 0 x.t.cap,.slice x.b.a 0 x.b.cap,.slice x.l.a 2 x.l.cap] 64 (0,0)):=by rw [hW0];exact heap_alloc_new _ _
 have hPl:=h.lt
 have HE:Hid (∀ w',Wr P 5 W0 w'->w'.cell? ⟨w.heap.size,0,none⟩=some (.int .i64 12)/\w'.cell? ⟨w.heap.size,1,none⟩=some (.string ⟨#[]⟩)/\w'.cell? ⟨w.heap.size,2,none⟩=some (.int .i64 0)/\w'.cell? ⟨w.heap.size,3,none⟩=some (.slice x.t.a 0 x.t.cap)/\w'.cell? ⟨w.heap.size,4,none⟩=some (.slice x.b.a 0 x.b.cap)/\w'.cell? ⟨w.heap.size,5,none⟩=some (.slice x.l.a 2 x.l.cap)):=Lh (fun w' hW=>by
  have e0:=hW.kept hbx (by decide) (by omega)
  have hlow:=(Wr.of_below (u:=5) hb0 (Nat.le_of_lt hPl)).below.trans hW.below
  exact ⟨cH e0 rfl,cH e0 rfl,cH e0 rfl,cH e0 rfl,cH e0 rfl,cH e0 rfl⟩)
 have H0:=Lh (aI (WPost.start (h.below hb0)) (aI (Wr.refl P 5 W0) (Wr.of_below (u:=5) hb0 (Nat.le_of_lt hPl))))
 have HBO:=Lh (fun (l':Bs) (W:World) (hW:Wr P 5 w W) (hA:WAt W P l') (hl:l'.length+(txtIn g 2++([32,124,32]++txtIn h' 3)).length<=maxTx)=>both_any w0 hg P hP 12 g h' hG hH [32,124,32] 2 3 x l' W (hb.trans (hW.below.mono hP)) hA (hx.agree (agree_of_below hW.below)) hl)
 have HW0:=Lh hW0
 have HL:=Lh hlen
 clear hb h hx hlen hb0 hbx hW0 hP hg hG hH
 go_enter Tryz.func75,Tryz.ntmps75
 go_wp2_with fail
 rw [<- HW0.out]
 refine (HBO.out _ W0 H0.out.2.2 H0.out.1.2.1 (by have h:=HL.out;simp only [List.length_append,List.length_cons,List.length_nil] at h ⊢;omega)).mono ?_
 rintro e w1 hp
 have H1:=Lh (aI (H0.out.1.then hp) (aI (H0.out.2.1.trans hp.2.2) (H0.out.2.2.trans hp.2.2)))
 obtain ⟨rfl,_,_⟩:=hp
 go_wp2_with fail
 go_end0
 exact (H1.out.1.lead H0.out.2.2).eq (by first | rfl | simp [txtIn,tightK])
theorem wform_13 (w0:World) (hg:GS w0) (P:Nat) (hP:w0.heap.size<=P) (g h':Frm) (hG:FormOk w0 P g) (hH:FormOk w0 P h') (x:FrmA) (l:Bs) (w:World) (hb:Below w0.heap.size w0 w) (h:WAt w P l) (hx:FrmIn w (·<P) (.mk 13 [] 0 [] [] [g,h']) x) (hlen:l.length+(txtIn g 2++([32,45,62,32]++txtIn h' 1)).length<=maxTx) :
  Calls Tryz.prog 75 #[.pointer (some ⟨P,0,none⟩),.agg #[.int .i64 13,.string ⟨#[]⟩,.int .i64 0,.slice x.t.a 0 x.t.cap,.slice x.b.a 0 x.b.cap,.slice x.l.a 2 x.l.cap]] w (WPost w P l (txtIn g 2++([32,45,62,32]++txtIn h' 1))):=by
 obtain ⟨W0,hW0⟩:∃ W0,W0=w.alloc (.cells #[.int .i64 13,.string ⟨#[]⟩,.int .i64 0,.slice x.t.a 0 x.t.cap,.slice x.b.a 0 x.b.cap,.slice x.l.a 2 x.l.cap] 64):=⟨_,rfl⟩
 have hb0:Below w.heap.size w W0:=by rw [hW0];exact below_new _ _
 have hbx:W0.heap[w.heap.size]?=some (.cells #[.int .i64 13,.string ⟨#[]⟩,.int .i64 0,.slice x.t.a 0 x.t.cap,.slice x.b.a 0 x.b.cap,.slice x.l.a 2 x.l.cap] 64 (0,0)):=by rw [hW0];exact heap_alloc_new _ _
 have hPl:=h.lt
 have HE:Hid (∀ w',Wr P 5 W0 w'->w'.cell? ⟨w.heap.size,0,none⟩=some (.int .i64 13)/\w'.cell? ⟨w.heap.size,1,none⟩=some (.string ⟨#[]⟩)/\w'.cell? ⟨w.heap.size,2,none⟩=some (.int .i64 0)/\w'.cell? ⟨w.heap.size,3,none⟩=some (.slice x.t.a 0 x.t.cap)/\w'.cell? ⟨w.heap.size,4,none⟩=some (.slice x.b.a 0 x.b.cap)/\w'.cell? ⟨w.heap.size,5,none⟩=some (.slice x.l.a 2 x.l.cap)):=Lh (fun w' hW=>by
  have e0:=hW.kept hbx (by decide) (by omega)
  have hlow:=(Wr.of_below (u:=5) hb0 (Nat.le_of_lt hPl)).below.trans hW.below
  exact ⟨cH e0 rfl,cH e0 rfl,cH e0 rfl,cH e0 rfl,cH e0 rfl,cH e0 rfl⟩)
 have H0:=Lh (aI (WPost.start (h.below hb0)) (aI (Wr.refl P 5 W0) (Wr.of_below (u:=5) hb0 (Nat.le_of_lt hPl))))
 have HBO:=Lh (fun (l':Bs) (W:World) (hW:Wr P 5 w W) (hA:WAt W P l') (hl:l'.length+(txtIn g 2++([32,45,62,32]++txtIn h' 1)).length<=maxTx)=>both_any w0 hg P hP 13 g h' hG hH [32,45,62,32] 2 1 x l' W (hb.trans (hW.below.mono hP)) hA (hx.agree (agree_of_below hW.below)) hl)
 have HW0:=Lh hW0
 have HL:=Lh hlen
 clear hb h hx hlen hb0 hbx hW0 hP hg hG hH
 go_enter Tryz.func75,Tryz.ntmps75
 go_wp2_with fail
 rw [<- HW0.out]
 refine (HBO.out _ W0 H0.out.2.2 H0.out.1.2.1 (by have h:=HL.out;simp only [List.length_append,List.length_cons,List.length_nil] at h ⊢;omega)).mono ?_
 rintro e w1 hp
 have H1:=Lh (aI (H0.out.1.then hp) (aI (H0.out.2.1.trans hp.2.2) (H0.out.2.2.trans hp.2.2)))
 obtain ⟨rfl,_,_⟩:=hp
 go_wp2_with fail
 go_end0
 exact (H1.out.1.lead H0.out.2.2).eq (by first | rfl | simp [txtIn,tightK])
theorem wform_atom (w0:World) (hg:GS w0) (P:Nat) (hP:w0.heap.size<=P) (k:Int) (e1:(k==1)=false) (e2:(k==2)=false) (e9:(k==9)=false) (e10:(k==10)=false) (e11:(k==11)=false) (e12:(k==12)=false) (e13:(k==13)=false) (e14:(k==14)=false) (e15:(k==15)=false) (e16:(k==16)=false) (e17:(k==17)=false) (t u:Trm) (ht:termedF t=true) (hu:termedF u=true) (x:FrmA) (l:Bs) (w:World) (hb:Below w0.heap.size w0 w) (h:WAt w P l) (hx:FrmIn w (·<P) (.mk k [] 0 [t,u] [] []) x) (hlen:l.length+(kwOf kwAtom k++([40]++(txtTerm t++([44,32]++(txtTerm u++[41]))))).length<=maxTx) :
  Calls Tryz.prog 75 #[.pointer (some ⟨P,0,none⟩),.agg #[.int .i64 k,.string ⟨#[]⟩,.int .i64 0,.slice x.t.a 2 x.t.cap,.slice x.b.a 0 x.b.cap,.slice x.l.a 0 x.l.cap]] w (WPost w P l (kwOf kwAtom k++([40]++(txtTerm t++([44,32]++(txtTerm u++[41])))))):=by
 obtain ⟨W0,hW0⟩:∃ W0,W0=w.alloc (.cells #[.int .i64 k,.string ⟨#[]⟩,.int .i64 0,.slice x.t.a 2 x.t.cap,.slice x.b.a 0 x.b.cap,.slice x.l.a 0 x.l.cap] 64):=⟨_,rfl⟩
 have hb0:Below w.heap.size w W0:=by rw [hW0];exact below_new _ _
 have hbx:W0.heap[w.heap.size]?=some (.cells #[.int .i64 k,.string ⟨#[]⟩,.int .i64 0,.slice x.t.a 2 x.t.cap,.slice x.b.a 0 x.b.cap,.slice x.l.a 0 x.l.cap] 64 (0,0)):=by rw [hW0];exact heap_alloc_new _ _
 have hPl:=h.lt
 obtain ⟨hta,htb⟩:x.t.a=some ⟨x.t.b,x.t.o,none⟩/\x.t.b<P:=by have:=hx.terms.at_ (by simp [Frm.terms]);exact this
 obtain ⟨_,_,_,hfl,_⟩:=hx.terms.flat Trm.flatT
 obtain ⟨p0,q0,r0⟩:=hfl.three 0 (by simp [Frm.terms]) rfl
 obtain ⟨p1,q1,r1⟩:=hfl.three 1 (by simp [Frm.terms]) rfl
 have HE:Hid (∀ w',Wr P 5 W0 w'->w'.cell? ⟨w.heap.size,0,none⟩=some (.int .i64 k)/\w'.cell? ⟨w.heap.size,1,none⟩=some (.string ⟨#[]⟩)/\w'.cell? ⟨w.heap.size,2,none⟩=some (.int .i64 0)/\w'.cell? ⟨w.heap.size,3,none⟩=some (.slice x.t.a 2 x.t.cap)/\w'.cell? ⟨w.heap.size,4,none⟩=some (.slice x.b.a 0 x.b.cap)/\w'.cell? ⟨w.heap.size,5,none⟩=some (.slice x.l.a 0 x.l.cap)/\w'.cell? ⟨x.t.b,x.t.o,none⟩=some (.int .i64 t.kind)/\w'.cell? ⟨x.t.b,x.t.o+1,none⟩=some (.string ⟨t.name.toArray⟩)/\w'.cell? ⟨x.t.b,x.t.o+2,none⟩=some (.int .i64 t.n)/\w'.cell? ⟨x.t.b,x.t.o+3,none⟩=some (.int .i64 u.kind)/\w'.cell? ⟨x.t.b,x.t.o+4,none⟩=some (.string ⟨u.name.toArray⟩)/\w'.cell? ⟨x.t.b,x.t.o+5,none⟩=some (.int .i64 u.n)):=Lh (fun w' hW=>by
  have e0:=hW.kept hbx (by decide) (by omega)
  have hlow:=(Wr.of_below (u:=5) hb0 (Nat.le_of_lt hPl)).below.trans hW.below
  exact ⟨cH e0 rfl,cH e0 rfl,cH e0 rfl,cH e0 rfl,cH e0 rfl,cH e0 rfl,(hlow.cell (p:=⟨x.t.b,x.t.o,none⟩) htb).trans (by simpa [Frm.terms,Nat.add_assoc] using p0),(hlow.cell (p:=⟨x.t.b,x.t.o+1,none⟩) htb).trans (by simpa [Frm.terms,Nat.add_assoc] using q0),(hlow.cell (p:=⟨x.t.b,x.t.o+2,none⟩) htb).trans (by simpa [Frm.terms,Nat.add_assoc] using r0),(hlow.cell (p:=⟨x.t.b,x.t.o+3,none⟩) htb).trans (by simpa [Frm.terms,Nat.add_assoc] using p1),(hlow.cell (p:=⟨x.t.b,x.t.o+4,none⟩) htb).trans (by simpa [Frm.terms,Nat.add_assoc] using q1),(hlow.cell (p:=⟨x.t.b,x.t.o+5,none⟩) htb).trans (by simpa [Frm.terms,Nat.add_assoc] using r1)⟩)
 have H0:=Lh (aI (WPost.start (h.below hb0)) (aI (Wr.refl P 5 W0) (Wr.of_below (u:=5) hb0 (Nat.le_of_lt hPl))))
 have HT0:=Lh (fun (l':Bs) (W:World) (hW:Wr P 5 w W) (hA:WAt W P l') (hl:l'.length+(txtTerm t).length<=maxTx)=>wterm_any w0 hg P t l' W (hb.trans (hW.below.mono hP)) hA ht hl)
 have HT1:=Lh (fun (l':Bs) (W:World) (hW:Wr P 5 w W) (hA:WAt W P l') (hl:l'.length+(txtTerm u).length<=maxTx)=>wterm_any w0 hg P u l' W (hb.trans (hW.below.mono hP)) hA hu hl)
 have HKD:=Lh (atoms_any W0.drew)
 have HKO:=Lh (fun (W:World) (hb:KwAt W W0.heap.size kwAtom)=>wof_kw kwAtom k W0.heap.size W hb kwAtom_nd)
 have HPW:=Lh (Nat.le_of_lt (h.below hb0).lt)
 have z0:w.cell? ⟨x.t.b,x.t.o,none⟩=some (.int .i64 t.kind):=by simpa [Frm.terms,Nat.add_assoc] using p0
 have z1:w.cell? ⟨x.t.b,x.t.o+1,none⟩=some (.string ⟨t.name.toArray⟩):=by simpa [Frm.terms,Nat.add_assoc] using q0
 have z2:w.cell? ⟨x.t.b,x.t.o+2,none⟩=some (.int .i64 t.n):=by simpa [Frm.terms,Nat.add_assoc] using r0
 have z3:w.cell? ⟨x.t.b,x.t.o+3,none⟩=some (.int .i64 u.kind):=by simpa [Frm.terms,Nat.add_assoc] using p1
 have z4:w.cell? ⟨x.t.b,x.t.o+4,none⟩=some (.string ⟨u.name.toArray⟩):=by simpa [Frm.terms,Nat.add_assoc] using q1
 have z5:w.cell? ⟨x.t.b,x.t.o+5,none⟩=some (.int .i64 u.n):=by simpa [Frm.terms,Nat.add_assoc] using r1
 have htw:x.t.b<w.heap.size:=by omega
 have HW0:=Lh hW0
 have HL:=Lh hlen
 clear hb h hx hlen hb0 hbx hW0 hP hg htb hfl p0 q0 r0 p1 q1 r1 ht hu
 rw [hta]
 have HTA:=Lh hta
 rw [hta] at HW0 HE
 clear hta
 go_enter Tryz.func75,Tryz.ntmps75
 go_wp2_with fail
 rw [<- HW0.out]
 clear z0 z1 z2 z3 z4 z5 htw
 refine wp_region_noPanic ?_
 refine wp_region_held_drew (S:=fun w'=>w'.cell? ⟨w.heap.size,0,none⟩=some (.int .i64 k)/\w'.cell? ⟨w.heap.size,1,none⟩=some (.string ⟨#[]⟩)/\w'.cell? ⟨w.heap.size,2,none⟩=some (.int .i64 0)/\w'.cell? ⟨w.heap.size,3,none⟩=some (.slice (some ⟨x.t.b,x.t.o,none⟩) 2 x.t.cap)/\w'.cell? ⟨w.heap.size,4,none⟩=some (.slice x.b.a 0 x.b.cap)/\w'.cell? ⟨w.heap.size,5,none⟩=some (.slice x.l.a 0 x.l.cap)/\w'.cell? ⟨x.t.b,x.t.o,none⟩=some (.int .i64 t.kind)/\w'.cell? ⟨x.t.b,x.t.o+1,none⟩=some (.string ⟨t.name.toArray⟩)/\w'.cell? ⟨x.t.b,x.t.o+2,none⟩=some (.int .i64 t.n)/\w'.cell? ⟨x.t.b,x.t.o+3,none⟩=some (.int .i64 u.kind)/\w'.cell? ⟨x.t.b,x.t.o+4,none⟩=some (.string ⟨u.name.toArray⟩)/\w'.cell? ⟨x.t.b,x.t.o+5,none⟩=some (.int .i64 u.n)) (by kernel_rfl) (HE.out _ (Wr.of_below (Below.refl _ _).drew HPW.out)) (fun hHeld=>?_)
 refine tkA (i:=0) rfl hHeld ?_
 refine tkA (i:=2) rfl hHeld ?_
 refine tkA (i:=3) rfl hHeld ?_
 refine wpAnyH_ready (rs:=[1]) (by kernel_rfl) (by simp) ?_
 refine cons_at rfl (fun K hK=>?_) AllReadyH.nil
 go_simp
 go_at_call 127
 refine HKD.out.mono ?_
 rintro e w2 ⟨rfl,rfl⟩
 have hb2:Below W0.heap.size W0 (W0.drew.alloc (.map (kwEs 0 kwAtom).toArray 6)):=(Below.refl _ _).drew.alloc (Nat.le_refl _) _
 have hk2:KwAt (W0.drew.alloc (.map (kwEs 0 kwAtom).toArray 6)) W0.heap.size kwAtom:=heap_alloc_new W0.drew _
 generalize W0.drew.alloc (.map (kwEs 0 kwAtom).toArray 6)=w2 at hb2 hk2 ⊢
 have H2:=Lh (aI hb2 hk2)
 clear hb2 hk2
 go_simp
 refine hK.out _ _ (HE.out _ (Wr.of_below H2.out.1 HPW.out)) fun hHeld=>?_
 clear hK K
 try simp only [Act.put,List.setIfInBounds_toArray,List.set_cons_zero,List.set_cons_succ]
 refine wpAnyH_ready (rs:=[4]) (by kernel_rfl) (by simp) ?_
 refine cons_at rfl (fun K hK=>?_) AllReadyH.nil
 go_simp
 go_at_call 125
 refine (HKO.out w2 H2.out.2).mono ?_
 rintro e w3 ⟨rfl,hb3⟩
 have H3:=Lh (H2.out.1.trans (hb3.mono H2.out.1.size))
 clear hb3
 go_simp
 refine hK.out _ _ (HE.out _ (Wr.of_below H3.out HPW.out)) fun hHeld=>?_
 clear hK K
 try simp only [Act.put,List.setIfInBounds_toArray,List.set_cons_zero,List.set_cons_succ]
 refine wpAnyH_ready (rs:=[5]) (by kernel_rfl) (by simp) ?_
 refine cons_at rfl (fun K hK=>?_) AllReadyH.nil
 go_simp
 refine hK.out _ _ (HE.out _ (Wr.of_below (H3.out.alloc H3.out.size _) HPW.out)) fun hHeld=>?_
 clear hK K
 try simp only [Act.put,List.setIfInBounds_toArray,List.set_cons_zero,List.set_cons_succ]
 refine wpAnyH_ready (rs:=[6]) (by kernel_rfl) (by simp) ?_
 refine cons_at rfl (fun K hK=>?_) AllReadyH.nil
 go_simp
 go_at_call 120
 refine (put2 P (kwOf kwAtom k) [40] _ w3 rfl (H0.out.1.2.1.below H3.out) (by have h:=HL.out;simp only [List.length_append,List.length_cons,List.length_nil] at h ⊢;omega)).mono ?_
 rintro e w4 hp
 have HP:=Lh (hp.before H3.out HPW.out)
 obtain ⟨rfl,_,_⟩:=hp
 go_simp
 refine hK.out _ _ (HE.out _ HP.out.2.2) fun hHeld=>?_
 clear hK K
 try simp only [Act.put,List.setIfInBounds_toArray,List.set_cons_zero,List.set_cons_succ]
 refine wpAnyH_done (by kernel_rfl) ?_ _
 refine NoPanic.normal ?_
 have H1:=Lh (aI (H0.out.1.then HP.out) (aI (H0.out.2.1.trans HP.out.2.2) (H0.out.2.2.trans HP.out.2.2)))
 clear HP H2 H3 hHeld HKD HKO
 obtain ⟨w1,hw1⟩:∃ w1,w1=w4:=⟨_,rfl⟩
 subst hw1
 obtain ⟨c0,c1,c2,c3,c4,c5,c6,c7,c8,c9,c10,c11⟩:=HE.out w1 H1.out.2.1
 go_wp2_with fail
 refine (HT0.out _ w1 H1.out.2.2 H1.out.1.2.1 (by have h:=HL.out;simp only [List.length_append,List.length_cons,List.length_nil] at h ⊢;omega)).mono ?_
 rintro e w2 hp
 have H2:=Lh (aI (H1.out.1.then hp) (aI (H1.out.2.1.trans hp.2.2) (H1.out.2.2.trans hp.2.2)))
 obtain ⟨rfl,_,_⟩:=hp
 clear c0 c1 c2 c3 c4 c5 c6 c7 c8 c9 c10 c11
 obtain ⟨c0,c1,c2,c3,c4,c5,c6,c7,c8,c9,c10,c11⟩:=HE.out w2 H2.out.2.1
 go_wp2_with fail
 refine (put1 P [44,32] _ w2 rfl H2.out.1.2.1 (by have h:=HL.out;simp only [List.length_append,List.length_cons,List.length_nil] at h ⊢;omega)).mono ?_
 rintro e w3 hp
 have H3:=Lh (aI (H2.out.1.then hp) (aI (H2.out.2.1.trans hp.2.2) (H2.out.2.2.trans hp.2.2)))
 obtain ⟨rfl,_,_⟩:=hp
 clear c0 c1 c2 c3 c4 c5 c6 c7 c8 c9 c10 c11
 obtain ⟨c0,c1,c2,c3,c4,c5,c6,c7,c8,c9,c10,c11⟩:=HE.out w3 H3.out.2.1
 go_wp2_with fail
 refine (HT1.out _ w3 H3.out.2.2 H3.out.1.2.1 (by have h:=HL.out;simp only [List.length_append,List.length_cons,List.length_nil] at h ⊢;omega)).mono ?_
 rintro e w4 hp
 have H4:=Lh (aI (H3.out.1.then hp) (aI (H3.out.2.1.trans hp.2.2) (H3.out.2.2.trans hp.2.2)))
 obtain ⟨rfl,_,_⟩:=hp
 clear c0 c1 c2 c3 c4 c5 c6 c7 c8 c9 c10 c11
 obtain ⟨c0,c1,c2,c3,c4,c5,c6,c7,c8,c9,c10,c11⟩:=HE.out w4 H4.out.2.1
 go_wp2_with fail
 refine (put1 P [41] _ w4 rfl H4.out.1.2.1 (by have h:=HL.out;simp only [List.length_append,List.length_cons,List.length_nil] at h ⊢;omega)).mono ?_
 rintro e w5 hp
 have H5:=Lh (aI (H4.out.1.then hp) (aI (H4.out.2.1.trans hp.2.2) (H4.out.2.2.trans hp.2.2)))
 obtain ⟨rfl,_,_⟩:=hp
 clear c0 c1 c2 c3 c4 c5 c6 c7 c8 c9 c10 c11
 go_wp2_with fail
 go_end0
 exact (H5.out.1.lead H0.out.2.2).eq (by first | rfl | simp [txtIn,tightK])
theorem wform_qlo (w0:World) (hg:GS w0) (P:Nat) (hP:w0.heap.size<=P) (k:Int) (hk:k=14∨k=15) (n:Int) (h0:0<=n) (h1:n<=9223372036854775807) (bs:List Bnd) (hbs:bs.length<=1000000) (g:Frm) (hG:FormOk w0 P g) (x:FrmA) (l:Bs) (w:World) (hb:Below w0.heap.size w0 w) (h:WAt w P l) (hx:FrmIn w (·<P) (.mk k [] n [] bs [g]) x) (hlen:l.length+(kwOf kwAll k++([32]++((txtBinds bs++([32,40]++(txtF g++[41])))))).length<=maxTx) :
  Calls Tryz.prog 75 #[.pointer (some ⟨P,0,none⟩),.agg #[.int .i64 k,.string ⟨#[]⟩,.int .i64 n,.slice x.t.a 0 x.t.cap,.slice x.b.a bs.length x.b.cap,.slice x.l.a 1 x.l.cap]] w (WPost w P l (kwOf kwAll k++([32]++((txtBinds bs++([32,40]++(txtF g++[41]))))))):=by
 obtain ⟨W0,hW0⟩:∃ W0,W0=w.alloc (.cells #[.int .i64 k,.string ⟨#[]⟩,.int .i64 n,.slice x.t.a 0 x.t.cap,.slice x.b.a bs.length x.b.cap,.slice x.l.a 1 x.l.cap] 64):=⟨_,rfl⟩
 have hb0:Below w.heap.size w W0:=by rw [hW0];exact below_new _ _
 have hbx:W0.heap[w.heap.size]?=some (.cells #[.int .i64 k,.string ⟨#[]⟩,.int .i64 n,.slice x.t.a 0 x.t.cap,.slice x.b.a bs.length x.b.cap,.slice x.l.a 1 x.l.cap] 64 (0,0)):=by rw [hW0];exact heap_alloc_new _ _
 have hPl:=h.lt
 obtain ⟨hla,hlb⟩:x.l.a=some ⟨x.l.b,x.l.o,none⟩/\x.l.b<P:=by have:=hx.l.at_ (by simp [Frm.l]);exact this
 obtain ⟨y0,hy0,hc0⟩:∃ y,FrmIn w (·<P) g y/\CellsAt w x.l.b (x.l.o+0) (y.cells g):=hx.l.frm 0 (by simp [Frm.l])
 obtain ⟨p0,q0,r0,s0,t0,v0⟩:=CellsAt.six hc0
 have HE:Hid (∀ w',Wr P 5 W0 w'->w'.cell? ⟨w.heap.size,0,none⟩=some (.int .i64 k)/\w'.cell? ⟨w.heap.size,1,none⟩=some (.string ⟨#[]⟩)/\w'.cell? ⟨w.heap.size,2,none⟩=some (.int .i64 n)/\w'.cell? ⟨w.heap.size,3,none⟩=some (.slice x.t.a 0 x.t.cap)/\w'.cell? ⟨w.heap.size,4,none⟩=some (.slice x.b.a bs.length x.b.cap)/\w'.cell? ⟨w.heap.size,5,none⟩=some (.slice x.l.a 1 x.l.cap)/\w'.cell? ⟨x.l.b,x.l.o,none⟩=some (.int .i64 g.kind)/\w'.cell? ⟨x.l.b,x.l.o+1,none⟩=some (.string ⟨g.name.toArray⟩)/\w'.cell? ⟨x.l.b,x.l.o+2,none⟩=some (.int .i64 g.n)/\w'.cell? ⟨x.l.b,x.l.o+3,none⟩=some (.slice y0.t.a g.terms.length y0.t.cap)/\w'.cell? ⟨x.l.b,x.l.o+4,none⟩=some (.slice y0.b.a g.binds.length y0.b.cap)/\w'.cell? ⟨x.l.b,x.l.o+5,none⟩=some (.slice y0.l.a g.l.length y0.l.cap)):=Lh (fun w' hW=>by
  have e0:=hW.kept hbx (by decide) (by omega)
  have hlow:=(Wr.of_below (u:=5) hb0 (Nat.le_of_lt hPl)).below.trans hW.below
  exact ⟨cH e0 rfl,cH e0 rfl,cH e0 rfl,cH e0 rfl,cH e0 rfl,cH e0 rfl,(hlow.cell (p:=⟨x.l.b,x.l.o,none⟩) hlb).trans (by simpa using p0),(hlow.cell (p:=⟨x.l.b,x.l.o+1,none⟩) hlb).trans (by simpa using q0),(hlow.cell (p:=⟨x.l.b,x.l.o+2,none⟩) hlb).trans (by simpa using r0),(hlow.cell (p:=⟨x.l.b,x.l.o+3,none⟩) hlb).trans (by simpa using s0),(hlow.cell (p:=⟨x.l.b,x.l.o+4,none⟩) hlb).trans (by simpa using t0),(hlow.cell (p:=⟨x.l.b,x.l.o+5,none⟩) hlb).trans (by simpa using v0)⟩)
 have H0:=Lh (aI (WPost.start (h.below hb0)) (aI (Wr.refl P 5 W0) (Wr.of_below (u:=5) hb0 (Nat.le_of_lt hPl))))
 have HGF:=Lh (fun (l':Bs) (W:World) (hW:Wr P 5 w W) (hA:WAt W P l') (hl:l'.length+(txtF g).length<=maxTx)=>hG y0 l' W (hb.trans (hW.below.mono hP)) hA (hy0.agree (agree_of_below hW.below)) hl)
 have HBI:=Lh (fun (l':Bs) (W:World) (hW:Wr P 5 w W) (hA:WAt W P l') (hl:l'.length+(txtBinds bs).length<=maxTx)=>wbinds_any P bs x.b l' W hA (SlIn.agree hx.binds (agree_of_below hW.below)) hbs hl)
 have HIT:=Lh (fun (W:World) (hW:Wr P 5 w W)=>itoa_any n w0 W hg (hb.trans (hW.below.mono hP)) h0 h1)
 have HKD:=Lh (alls_any W0.drew)
 have HKO:=Lh (fun (W:World) (hb:KwAt W W0.heap.size kwAll)=>wof_kw kwAll k W0.heap.size W hb kwAll_nd)
 have HPW:=Lh (Nat.le_of_lt (h.below hb0).lt)
 have z0:w.cell? ⟨x.l.b,x.l.o,none⟩=some (.int .i64 g.kind):=by simpa using p0
 have z1:w.cell? ⟨x.l.b,x.l.o+1,none⟩=some (.string ⟨g.name.toArray⟩):=by simpa using q0
 have z2:w.cell? ⟨x.l.b,x.l.o+2,none⟩=some (.int .i64 g.n):=by simpa using r0
 have z3:w.cell? ⟨x.l.b,x.l.o+3,none⟩=some (.slice y0.t.a g.terms.length y0.t.cap):=by simpa using s0
 have z4:w.cell? ⟨x.l.b,x.l.o+4,none⟩=some (.slice y0.b.a g.binds.length y0.b.cap):=by simpa using t0
 have z5:w.cell? ⟨x.l.b,x.l.o+5,none⟩=some (.slice y0.l.a g.l.length y0.l.cap):=by simpa using v0
 have hlw:x.l.b<w.heap.size:=by omega
 have HW0:=Lh hW0
 have HL:=Lh hlen
 clear hb h hx hlen hb0 hbx hW0 hP hg hlb hy0 hc0 p0 q0 r0 s0 t0 v0 hG h0 h1
 rw [hla]
 have HLA:=Lh hla
 rw [hla] at HW0 HE
 clear hla
 have HKK:=Lh hk
 rcases hk with rfl | rfl
 all_goals
  go_enter Tryz.func75,Tryz.ntmps75
  go_wp2_with fail
  rw [<- HW0.out]
  clear z0 z1 z2 z3 z4 z5 hlw
  refine wp_region_noPanic ?_
  refine wp_region_held_drew (S:=fun w'=>w'.cell? ⟨w.heap.size,0,none⟩=some (.int .i64 _)/\w'.cell? ⟨w.heap.size,1,none⟩=some (.string ⟨#[]⟩)/\w'.cell? ⟨w.heap.size,2,none⟩=some (.int .i64 n)/\w'.cell? ⟨w.heap.size,3,none⟩=some (.slice x.t.a 0 x.t.cap)/\w'.cell? ⟨w.heap.size,4,none⟩=some (.slice x.b.a bs.length x.b.cap)/\w'.cell? ⟨w.heap.size,5,none⟩=some (.slice (some ⟨x.l.b,x.l.o,none⟩) 1 x.l.cap)/\w'.cell? ⟨x.l.b,x.l.o,none⟩=some (.int .i64 g.kind)/\w'.cell? ⟨x.l.b,x.l.o+1,none⟩=some (.string ⟨g.name.toArray⟩)/\w'.cell? ⟨x.l.b,x.l.o+2,none⟩=some (.int .i64 g.n)/\w'.cell? ⟨x.l.b,x.l.o+3,none⟩=some (.slice y0.t.a g.terms.length y0.t.cap)/\w'.cell? ⟨x.l.b,x.l.o+4,none⟩=some (.slice y0.b.a g.binds.length y0.b.cap)/\w'.cell? ⟨x.l.b,x.l.o+5,none⟩=some (.slice y0.l.a g.l.length y0.l.cap)) (by kernel_rfl) (HE.out _ (Wr.of_below (Below.refl _ _).drew HPW.out)) (fun hHeld=>?_)
  refine tkA (i:=0) rfl hHeld ?_
  refine tkA (i:=2) rfl hHeld ?_
  refine tkA (i:=3) rfl hHeld ?_
  refine wpAnyH_ready (rs:=[1]) (by kernel_rfl) (by simp) ?_
  refine cons_at rfl (fun K hK=>?_) AllReadyH.nil
  go_simp
  go_at_call 124
  refine HKD.out.mono ?_
  rintro e w2 ⟨rfl,rfl⟩
  have hb2:Below W0.heap.size W0 (W0.drew.alloc (.map (kwEs 0 kwAll).toArray 4)):=(Below.refl _ _).drew.alloc (Nat.le_refl _) _
  have hk2:KwAt (W0.drew.alloc (.map (kwEs 0 kwAll).toArray 4)) W0.heap.size kwAll:=heap_alloc_new W0.drew _
  generalize W0.drew.alloc (.map (kwEs 0 kwAll).toArray 4)=w2 at hb2 hk2 ⊢
  have H2:=Lh (aI hb2 hk2)
  clear hb2 hk2
  go_simp
  refine hK.out _ _ (HE.out _ (Wr.of_below H2.out.1 HPW.out)) fun hHeld=>?_
  clear hK K
  try simp only [Act.put,List.setIfInBounds_toArray,List.set_cons_zero,List.set_cons_succ]
  refine wpAnyH_ready (rs:=[4]) (by kernel_rfl) (by simp) ?_
  refine cons_at rfl (fun K hK=>?_) AllReadyH.nil
  go_simp
  go_at_call 125
  refine (HKO.out w2 H2.out.2).mono ?_
  rintro e w3 ⟨rfl,hb3⟩
  have H3:=Lh (H2.out.1.trans (hb3.mono H2.out.1.size))
  clear hb3
  go_simp
  refine hK.out _ _ (HE.out _ (Wr.of_below H3.out HPW.out)) fun hHeld=>?_
  clear hK K
  try simp only [Act.put,List.setIfInBounds_toArray,List.set_cons_zero,List.set_cons_succ]
  refine wpAnyH_ready (rs:=[5]) (by kernel_rfl) (by simp) ?_
  refine cons_at rfl (fun K hK=>?_) AllReadyH.nil
  go_simp
  refine hK.out _ _ (HE.out _ (Wr.of_below (H3.out.alloc H3.out.size _) HPW.out)) fun hHeld=>?_
  clear hK K
  try simp only [Act.put,List.setIfInBounds_toArray,List.set_cons_zero,List.set_cons_succ]
  refine wpAnyH_ready (rs:=[6]) (by kernel_rfl) (by simp) ?_
  refine cons_at rfl (fun K hK=>?_) AllReadyH.nil
  go_simp
  go_at_call 120
  refine (put2 P (kwOf kwAll _) [32] _ w3 rfl (H0.out.1.2.1.below H3.out) (by have h:=HL.out;simp only [List.length_append,List.length_cons,List.length_nil] at h ⊢;omega)).mono ?_
  rintro e w4 hp
  have HP:=Lh (hp.before H3.out HPW.out)
  obtain ⟨rfl,_,_⟩:=hp
  go_simp
  refine hK.out _ _ (HE.out _ HP.out.2.2) fun hHeld=>?_
  clear hK K
  try simp only [Act.put,List.setIfInBounds_toArray,List.set_cons_zero,List.set_cons_succ]
  refine wpAnyH_done (by kernel_rfl) ?_ _
  refine NoPanic.normal ?_
  have H1:=Lh (aI (H0.out.1.then HP.out) (aI (H0.out.2.1.trans HP.out.2.2) (H0.out.2.2.trans HP.out.2.2)))
  clear HP H2 H3 hHeld HKD HKO
  obtain ⟨w1,hw1⟩:∃ w1,w1=w4:=⟨_,rfl⟩
  subst hw1
  obtain ⟨c0,c1,c2,c3,c4,c5,c6,c7,c8,c9,c10,c11⟩:=HE.out w1 H1.out.2.1
  go_wp2_with fail
  refine (HBI.out _ w1 H1.out.2.2 H1.out.1.2.1 (by have h:=HL.out;simp only [List.length_append,List.length_cons,List.length_nil] at h ⊢;omega)).mono ?_
  rintro e w2 hp
  have H2:=Lh (aI (H1.out.1.then hp) (aI (H1.out.2.1.trans hp.2.2) (H1.out.2.2.trans hp.2.2)))
  obtain ⟨rfl,_,_⟩:=hp
  clear c0 c1 c2 c3 c4 c5 c6 c7 c8 c9 c10 c11
  obtain ⟨c0,c1,c2,c3,c4,c5,c6,c7,c8,c9,c10,c11⟩:=HE.out w2 H2.out.2.1
  go_wp2_with fail
  refine (put1 P [32,40] _ w2 rfl H2.out.1.2.1 (by have h:=HL.out;simp only [List.length_append,List.length_cons,List.length_nil] at h ⊢;omega)).mono ?_
  rintro e w3 hp
  have H3:=Lh (aI (H2.out.1.then hp) (aI (H2.out.2.1.trans hp.2.2) (H2.out.2.2.trans hp.2.2)))
  obtain ⟨rfl,_,_⟩:=hp
  clear c0 c1 c2 c3 c4 c5 c6 c7 c8 c9 c10 c11
  obtain ⟨c0,c1,c2,c3,c4,c5,c6,c7,c8,c9,c10,c11⟩:=HE.out w3 H3.out.2.1
  go_wp2_with fail
  refine (HGF.out _ w3 H3.out.2.2 H3.out.1.2.1 (by have h:=HL.out;simp only [List.length_append,List.length_cons,List.length_nil] at h ⊢;omega)).mono ?_
  rintro e w4 hp
  have H4:=Lh (aI (H3.out.1.then hp) (aI (H3.out.2.1.trans hp.2.2) (H3.out.2.2.trans hp.2.2)))
  obtain ⟨rfl,_,_⟩:=hp
  clear c0 c1 c2 c3 c4 c5 c6 c7 c8 c9 c10 c11
  obtain ⟨c0,c1,c2,c3,c4,c5,c6,c7,c8,c9,c10,c11⟩:=HE.out w4 H4.out.2.1
  go_wp2_with fail
  refine (put1 P [41] _ w4 rfl H4.out.1.2.1 (by have h:=HL.out;simp only [List.length_append,List.length_cons,List.length_nil] at h ⊢;omega)).mono ?_
  rintro e w5 hp
  have H5:=Lh (aI (H4.out.1.then hp) (aI (H4.out.2.1.trans hp.2.2) (H4.out.2.2.trans hp.2.2)))
  obtain ⟨rfl,_,_⟩:=hp
  clear c0 c1 c2 c3 c4 c5 c6 c7 c8 c9 c10 c11
  go_wp2_with fail
  go_end0
  exact (H5.out.1.lead H0.out.2.2).eq (by first | rfl | simp [txtIn,tightK])
theorem wform_qhi (w0:World) (hg:GS w0) (P:Nat) (hP:w0.heap.size<=P) (k:Int) (hk:k=16∨k=17) (n:Int) (h0:0<=n) (h1:n<=9223372036854775807) (bs:List Bnd) (hbs:bs.length<=1000000) (g:Frm) (hG:FormOk w0 P g) (x:FrmA) (l:Bs) (w:World) (hb:Below w0.heap.size w0 w) (h:WAt w P l) (hx:FrmIn w (·<P) (.mk k [] n [] bs [g]) x) (hlen:l.length+(kwOf kwAll k++([32]++(decI n++([32]++(txtBinds bs++([32,40]++(txtF g++[41]))))))).length<=maxTx) :
  Calls Tryz.prog 75 #[.pointer (some ⟨P,0,none⟩),.agg #[.int .i64 k,.string ⟨#[]⟩,.int .i64 n,.slice x.t.a 0 x.t.cap,.slice x.b.a bs.length x.b.cap,.slice x.l.a 1 x.l.cap]] w (WPost w P l (kwOf kwAll k++([32]++(decI n++([32]++(txtBinds bs++([32,40]++(txtF g++[41])))))))):=by
 obtain ⟨W0,hW0⟩:∃ W0,W0=w.alloc (.cells #[.int .i64 k,.string ⟨#[]⟩,.int .i64 n,.slice x.t.a 0 x.t.cap,.slice x.b.a bs.length x.b.cap,.slice x.l.a 1 x.l.cap] 64):=⟨_,rfl⟩
 have hb0:Below w.heap.size w W0:=by rw [hW0];exact below_new _ _
 have hbx:W0.heap[w.heap.size]?=some (.cells #[.int .i64 k,.string ⟨#[]⟩,.int .i64 n,.slice x.t.a 0 x.t.cap,.slice x.b.a bs.length x.b.cap,.slice x.l.a 1 x.l.cap] 64 (0,0)):=by rw [hW0];exact heap_alloc_new _ _
 have hPl:=h.lt
 obtain ⟨hla,hlb⟩:x.l.a=some ⟨x.l.b,x.l.o,none⟩/\x.l.b<P:=by have:=hx.l.at_ (by simp [Frm.l]);exact this
 obtain ⟨y0,hy0,hc0⟩:∃ y,FrmIn w (·<P) g y/\CellsAt w x.l.b (x.l.o+0) (y.cells g):=hx.l.frm 0 (by simp [Frm.l])
 obtain ⟨p0,q0,r0,s0,t0,v0⟩:=CellsAt.six hc0
 have HE:Hid (∀ w',Wr P 5 W0 w'->w'.cell? ⟨w.heap.size,0,none⟩=some (.int .i64 k)/\w'.cell? ⟨w.heap.size,1,none⟩=some (.string ⟨#[]⟩)/\w'.cell? ⟨w.heap.size,2,none⟩=some (.int .i64 n)/\w'.cell? ⟨w.heap.size,3,none⟩=some (.slice x.t.a 0 x.t.cap)/\w'.cell? ⟨w.heap.size,4,none⟩=some (.slice x.b.a bs.length x.b.cap)/\w'.cell? ⟨w.heap.size,5,none⟩=some (.slice x.l.a 1 x.l.cap)/\w'.cell? ⟨x.l.b,x.l.o,none⟩=some (.int .i64 g.kind)/\w'.cell? ⟨x.l.b,x.l.o+1,none⟩=some (.string ⟨g.name.toArray⟩)/\w'.cell? ⟨x.l.b,x.l.o+2,none⟩=some (.int .i64 g.n)/\w'.cell? ⟨x.l.b,x.l.o+3,none⟩=some (.slice y0.t.a g.terms.length y0.t.cap)/\w'.cell? ⟨x.l.b,x.l.o+4,none⟩=some (.slice y0.b.a g.binds.length y0.b.cap)/\w'.cell? ⟨x.l.b,x.l.o+5,none⟩=some (.slice y0.l.a g.l.length y0.l.cap)):=Lh (fun w' hW=>by
  have e0:=hW.kept hbx (by decide) (by omega)
  have hlow:=(Wr.of_below (u:=5) hb0 (Nat.le_of_lt hPl)).below.trans hW.below
  exact ⟨cH e0 rfl,cH e0 rfl,cH e0 rfl,cH e0 rfl,cH e0 rfl,cH e0 rfl,(hlow.cell (p:=⟨x.l.b,x.l.o,none⟩) hlb).trans (by simpa using p0),(hlow.cell (p:=⟨x.l.b,x.l.o+1,none⟩) hlb).trans (by simpa using q0),(hlow.cell (p:=⟨x.l.b,x.l.o+2,none⟩) hlb).trans (by simpa using r0),(hlow.cell (p:=⟨x.l.b,x.l.o+3,none⟩) hlb).trans (by simpa using s0),(hlow.cell (p:=⟨x.l.b,x.l.o+4,none⟩) hlb).trans (by simpa using t0),(hlow.cell (p:=⟨x.l.b,x.l.o+5,none⟩) hlb).trans (by simpa using v0)⟩)
 have H0:=Lh (aI (WPost.start (h.below hb0)) (aI (Wr.refl P 5 W0) (Wr.of_below (u:=5) hb0 (Nat.le_of_lt hPl))))
 have HGF:=Lh (fun (l':Bs) (W:World) (hW:Wr P 5 w W) (hA:WAt W P l') (hl:l'.length+(txtF g).length<=maxTx)=>hG y0 l' W (hb.trans (hW.below.mono hP)) hA (hy0.agree (agree_of_below hW.below)) hl)
 have HBI:=Lh (fun (l':Bs) (W:World) (hW:Wr P 5 w W) (hA:WAt W P l') (hl:l'.length+(txtBinds bs).length<=maxTx)=>wbinds_any P bs x.b l' W hA (SlIn.agree hx.binds (agree_of_below hW.below)) hbs hl)
 have HIT:=Lh (fun (W:World) (hW:Wr P 5 w W)=>itoa_any n w0 W hg (hb.trans (hW.below.mono hP)) h0 h1)
 have HKD:=Lh (alls_any W0.drew)
 have HKO:=Lh (fun (W:World) (hb:KwAt W W0.heap.size kwAll)=>wof_kw kwAll k W0.heap.size W hb kwAll_nd)
 have HPW:=Lh (Nat.le_of_lt (h.below hb0).lt)
 have z0:w.cell? ⟨x.l.b,x.l.o,none⟩=some (.int .i64 g.kind):=by simpa using p0
 have z1:w.cell? ⟨x.l.b,x.l.o+1,none⟩=some (.string ⟨g.name.toArray⟩):=by simpa using q0
 have z2:w.cell? ⟨x.l.b,x.l.o+2,none⟩=some (.int .i64 g.n):=by simpa using r0
 have z3:w.cell? ⟨x.l.b,x.l.o+3,none⟩=some (.slice y0.t.a g.terms.length y0.t.cap):=by simpa using s0
 have z4:w.cell? ⟨x.l.b,x.l.o+4,none⟩=some (.slice y0.b.a g.binds.length y0.b.cap):=by simpa using t0
 have z5:w.cell? ⟨x.l.b,x.l.o+5,none⟩=some (.slice y0.l.a g.l.length y0.l.cap):=by simpa using v0
 have hlw:x.l.b<w.heap.size:=by omega
 have HW0:=Lh hW0
 have HL:=Lh hlen
 clear hb h hx hlen hb0 hbx hW0 hP hg hlb hy0 hc0 p0 q0 r0 s0 t0 v0 hG h0 h1
 rw [hla]
 have HLA:=Lh hla
 rw [hla] at HW0 HE
 clear hla
 have HKK:=Lh hk
 rcases hk with rfl | rfl
 all_goals
  go_enter Tryz.func75,Tryz.ntmps75
  go_wp2_with fail
  rw [<- HW0.out]
  clear z0 z1 z2 z3 z4 z5 hlw
  refine wp_region_noPanic ?_
  refine wp_region_held_drew (S:=fun w'=>w'.cell? ⟨w.heap.size,0,none⟩=some (.int .i64 _)/\w'.cell? ⟨w.heap.size,1,none⟩=some (.string ⟨#[]⟩)/\w'.cell? ⟨w.heap.size,2,none⟩=some (.int .i64 n)/\w'.cell? ⟨w.heap.size,3,none⟩=some (.slice x.t.a 0 x.t.cap)/\w'.cell? ⟨w.heap.size,4,none⟩=some (.slice x.b.a bs.length x.b.cap)/\w'.cell? ⟨w.heap.size,5,none⟩=some (.slice (some ⟨x.l.b,x.l.o,none⟩) 1 x.l.cap)/\w'.cell? ⟨x.l.b,x.l.o,none⟩=some (.int .i64 g.kind)/\w'.cell? ⟨x.l.b,x.l.o+1,none⟩=some (.string ⟨g.name.toArray⟩)/\w'.cell? ⟨x.l.b,x.l.o+2,none⟩=some (.int .i64 g.n)/\w'.cell? ⟨x.l.b,x.l.o+3,none⟩=some (.slice y0.t.a g.terms.length y0.t.cap)/\w'.cell? ⟨x.l.b,x.l.o+4,none⟩=some (.slice y0.b.a g.binds.length y0.b.cap)/\w'.cell? ⟨x.l.b,x.l.o+5,none⟩=some (.slice y0.l.a g.l.length y0.l.cap)) (by kernel_rfl) (HE.out _ (Wr.of_below (Below.refl _ _).drew HPW.out)) (fun hHeld=>?_)
  refine tkA (i:=0) rfl hHeld ?_
  refine tkA (i:=2) rfl hHeld ?_
  refine tkA (i:=3) rfl hHeld ?_
  refine wpAnyH_ready (rs:=[1]) (by kernel_rfl) (by simp) ?_
  refine cons_at rfl (fun K hK=>?_) AllReadyH.nil
  go_simp
  go_at_call 124
  refine HKD.out.mono ?_
  rintro e w2 ⟨rfl,rfl⟩
  have hb2:Below W0.heap.size W0 (W0.drew.alloc (.map (kwEs 0 kwAll).toArray 4)):=(Below.refl _ _).drew.alloc (Nat.le_refl _) _
  have hk2:KwAt (W0.drew.alloc (.map (kwEs 0 kwAll).toArray 4)) W0.heap.size kwAll:=heap_alloc_new W0.drew _
  generalize W0.drew.alloc (.map (kwEs 0 kwAll).toArray 4)=w2 at hb2 hk2 ⊢
  have H2:=Lh (aI hb2 hk2)
  clear hb2 hk2
  go_simp
  refine hK.out _ _ (HE.out _ (Wr.of_below H2.out.1 HPW.out)) fun hHeld=>?_
  clear hK K
  try simp only [Act.put,List.setIfInBounds_toArray,List.set_cons_zero,List.set_cons_succ]
  refine wpAnyH_ready (rs:=[4]) (by kernel_rfl) (by simp) ?_
  refine cons_at rfl (fun K hK=>?_) AllReadyH.nil
  go_simp
  go_at_call 125
  refine (HKO.out w2 H2.out.2).mono ?_
  rintro e w3 ⟨rfl,hb3⟩
  have H3:=Lh (H2.out.1.trans (hb3.mono H2.out.1.size))
  clear hb3
  go_simp
  refine hK.out _ _ (HE.out _ (Wr.of_below H3.out HPW.out)) fun hHeld=>?_
  clear hK K
  try simp only [Act.put,List.setIfInBounds_toArray,List.set_cons_zero,List.set_cons_succ]
  refine wpAnyH_ready (rs:=[5]) (by kernel_rfl) (by simp) ?_
  refine cons_at rfl (fun K hK=>?_) AllReadyH.nil
  go_simp
  refine hK.out _ _ (HE.out _ (Wr.of_below (H3.out.alloc H3.out.size _) HPW.out)) fun hHeld=>?_
  clear hK K
  try simp only [Act.put,List.setIfInBounds_toArray,List.set_cons_zero,List.set_cons_succ]
  refine wpAnyH_ready (rs:=[6]) (by kernel_rfl) (by simp) ?_
  refine cons_at rfl (fun K hK=>?_) AllReadyH.nil
  go_simp
  go_at_call 120
  refine (put2 P (kwOf kwAll _) [32] _ w3 rfl (H0.out.1.2.1.below H3.out) (by have h:=HL.out;simp only [List.length_append,List.length_cons,List.length_nil] at h ⊢;omega)).mono ?_
  rintro e w4 hp
  have HP:=Lh (hp.before H3.out HPW.out)
  obtain ⟨rfl,_,_⟩:=hp
  go_simp
  refine hK.out _ _ (HE.out _ HP.out.2.2) fun hHeld=>?_
  clear hK K
  try simp only [Act.put,List.setIfInBounds_toArray,List.set_cons_zero,List.set_cons_succ]
  refine wpAnyH_done (by kernel_rfl) ?_ _
  refine NoPanic.normal ?_
  have H1:=Lh (aI (H0.out.1.then HP.out) (aI (H0.out.2.1.trans HP.out.2.2) (H0.out.2.2.trans HP.out.2.2)))
  clear HP H2 H3 hHeld HKD HKO
  obtain ⟨w1,hw1⟩:∃ w1,w1=w4:=⟨_,rfl⟩
  subst hw1
  obtain ⟨c0,c1,c2,c3,c4,c5,c6,c7,c8,c9,c10,c11⟩:=HE.out w1 H1.out.2.1
  go_wp2_with fail
  refine (HIT.out w1 H1.out.2.2).mono ?_
  rintro e w2 ⟨rfl,hb2⟩
  have hP2:=Wr.of_below (u:=5) hb2 (Nat.le_of_lt H1.out.1.2.1.lt)
  have H2:=Lh (aI (show WPost W0 P _ _ _ w2 from ⟨rfl,H1.out.1.2.1.below hb2,H1.out.1.2.2.trans hP2⟩) (aI (H1.out.2.1.trans hP2) (H1.out.2.2.trans hP2)))
  clear hb2 hP2
  clear c0 c1 c2 c3 c4 c5 c6 c7 c8 c9 c10 c11
  obtain ⟨c0,c1,c2,c3,c4,c5,c6,c7,c8,c9,c10,c11⟩:=HE.out w2 H2.out.2.1
  go_wp2_with fail
  refine (put2 P (decI n) [32] _ w2 rfl H2.out.1.2.1 (by have h:=HL.out;simp only [List.length_append,List.length_cons,List.length_nil] at h ⊢;omega)).mono ?_
  rintro e w3 hp
  have H3:=Lh (aI (H2.out.1.then hp) (aI (H2.out.2.1.trans hp.2.2) (H2.out.2.2.trans hp.2.2)))
  obtain ⟨rfl,_,_⟩:=hp
  clear c0 c1 c2 c3 c4 c5 c6 c7 c8 c9 c10 c11
  obtain ⟨c0,c1,c2,c3,c4,c5,c6,c7,c8,c9,c10,c11⟩:=HE.out w3 H3.out.2.1
  go_wp2_with fail
  refine (HBI.out _ w3 H3.out.2.2 H3.out.1.2.1 (by have h:=HL.out;simp only [List.length_append,List.length_cons,List.length_nil] at h ⊢;omega)).mono ?_
  rintro e w4 hp
  have H4:=Lh (aI (H3.out.1.then hp) (aI (H3.out.2.1.trans hp.2.2) (H3.out.2.2.trans hp.2.2)))
  obtain ⟨rfl,_,_⟩:=hp
  clear c0 c1 c2 c3 c4 c5 c6 c7 c8 c9 c10 c11
  obtain ⟨c0,c1,c2,c3,c4,c5,c6,c7,c8,c9,c10,c11⟩:=HE.out w4 H4.out.2.1
  go_wp2_with fail
  refine (put1 P [32,40] _ w4 rfl H4.out.1.2.1 (by have h:=HL.out;simp only [List.length_append,List.length_cons,List.length_nil] at h ⊢;omega)).mono ?_
  rintro e w5 hp
  have H5:=Lh (aI (H4.out.1.then hp) (aI (H4.out.2.1.trans hp.2.2) (H4.out.2.2.trans hp.2.2)))
  obtain ⟨rfl,_,_⟩:=hp
  clear c0 c1 c2 c3 c4 c5 c6 c7 c8 c9 c10 c11
  obtain ⟨c0,c1,c2,c3,c4,c5,c6,c7,c8,c9,c10,c11⟩:=HE.out w5 H5.out.2.1
  go_wp2_with fail
  refine (HGF.out _ w5 H5.out.2.2 H5.out.1.2.1 (by have h:=HL.out;simp only [List.length_append,List.length_cons,List.length_nil] at h ⊢;omega)).mono ?_
  rintro e w6 hp
  have H6:=Lh (aI (H5.out.1.then hp) (aI (H5.out.2.1.trans hp.2.2) (H5.out.2.2.trans hp.2.2)))
  obtain ⟨rfl,_,_⟩:=hp
  clear c0 c1 c2 c3 c4 c5 c6 c7 c8 c9 c10 c11
  obtain ⟨c0,c1,c2,c3,c4,c5,c6,c7,c8,c9,c10,c11⟩:=HE.out w6 H6.out.2.1
  go_wp2_with fail
  refine (put1 P [41] _ w6 rfl H6.out.1.2.1 (by have h:=HL.out;simp only [List.length_append,List.length_cons,List.length_nil] at h ⊢;omega)).mono ?_
  rintro e w7 hp
  have H7:=Lh (aI (H6.out.1.then hp) (aI (H6.out.2.1.trans hp.2.2) (H6.out.2.2.trans hp.2.2)))
  obtain ⟨rfl,_,_⟩:=hp
  clear c0 c1 c2 c3 c4 c5 c6 c7 c8 c9 c10 c11
  go_wp2_with fail
  go_end0
  exact (H7.out.1.lead H0.out.2.2).eq (by first | rfl | simp [txtIn,tightK])
end Go.Proofs.YtncnnbmeacpboaaGreatDoor
/- The writer of layer syntax: form whole, rule. (written by tools/gen_pwr4.py) -/
namespace Go.Proofs.YtncnnbmeacpboaaGreatDoor
open Go.RowKit Go.Chalk
attribute [local go_sem] Oper.semAt_some
theorem beq_no {a b:Int} (h:a ≠ b):(a==b)=false:=by simpa using h
theorem form_any (w0:World) (hg:GS w0) (P:Nat) (hP:w0.heap.size<=P):∀ g,wf g->FormOk w0 P g:=by
 refine wf_ind ?_ ?_ ?_ ?_ ?_ ?_
 ·rintro k (rfl | rfl)
  ·intro y l w hb h hy hlen
   have e:txtF (.mk 1 [] 0 [] [] [])=[116,114,117,101]:=by rw [txtF_nil];rfl
   rw [e] at hlen ⊢
   exact wform_1 w0 hg P hP y l w hb h hy hlen
  ·intro y l w hb h hy hlen
   have e:txtF (.mk 2 [] 0 [] [] [])=[102,97,108,115,101]:=by rw [txtF_nil];rfl
   rw [e] at hlen ⊢
   exact wform_2 w0 hg P hP y l w hb h hy hlen
 ·intro k a b h1 h2 ha hb' y l w hb h hy hlen
  have e:txtF (.mk k [] 0 [⟨2,a,0⟩,⟨2,b,0⟩] [] [])=kwOf kwAtom k++([40]++(txtTerm ⟨2,a,0⟩++([44,32]++(txtTerm ⟨2,b,0⟩++[41])))):=by
   rw [txtF_two,if_neg (by omega),if_neg (by omega),if_neg (by omega),if_neg (by omega),if_neg (by omega),if_neg (by omega),if_neg (by omega),if_neg (by omega)]
  rw [e] at hlen ⊢
  exact wform_atom w0 hg P hP k (beq_no (by omega)) (beq_no (by omega)) (beq_no (by omega)) (beq_no (by omega)) (beq_no (by omega)) (beq_no (by omega)) (beq_no (by omega)) (beq_no (by omega)) (beq_no (by omega)) (beq_no (by omega)) (beq_no (by omega)) ⟨2,a,0⟩ ⟨2,b,0⟩ (by simp [termedF,ha]) (by simp [termedF,hb']) y l w hb h hy hlen
 ·intro s t u hs ht hu y l w hb h hy hlen
  have e:txtF (.mk 9 s 0 [t,u] [] [])=txtTerm t++([32]++(s++([32]++txtTerm u))):=by rw [txtF_two];rfl
  rw [e] at hlen ⊢
  exact wform_cmp w0 hg P hP s t u ht hu y l w hb h hy hlen
 ·intro g _ ih y l w hb h hy hlen
  have e:txtF (.mk 10 [] 0 [] [] [g])=[33]++txtIn g 4:=by rw [txtF_nil];simp [txtAt,txtIn]
  rw [e] at hlen ⊢
  exact wform_not w0 hg P hP g ih y l w hb h hy hlen
 ·intro k g g' h1 h2 _ _ ih1 ih2
  have:k=11∨k=12∨k=13:=by omega
  rcases this with rfl | rfl | rfl
  ·intro y l w hb h hy hlen
   have e:txtF (.mk 11 [] 0 [] [] [g,g'])=txtIn g 3++([32,38,32]++txtIn g' 4):=by rw [txtF_nil];simp [txtAt,txtIn]
   rw [e] at hlen ⊢
   exact wform_11 w0 hg P hP g g' ih1 ih2 y l w hb h hy hlen
  ·intro y l w hb h hy hlen
   have e:txtF (.mk 12 [] 0 [] [] [g,g'])=txtIn g 2++([32,124,32]++txtIn g' 3):=by rw [txtF_nil];simp [txtAt,txtIn]
   rw [e] at hlen ⊢
   exact wform_12 w0 hg P hP g g' ih1 ih2 y l w hb h hy hlen
  ·intro y l w hb h hy hlen
   have e:txtF (.mk 13 [] 0 [] [] [g,g'])=txtIn g 2++([32,45,62,32]++txtIn g' 1):=by rw [txtF_nil];simp [txtAt,txtIn]
   rw [e] at hlen ⊢
   exact wform_13 w0 hg P hP g g' ih1 ih2 y l w hb h hy hlen
 ·intro k n b bs g h1 h2 hn hm hz hl hbo hbs _ ih
  have hat:txtAt [g] 0 0=txtF g:=by rw [txtAt_get [g] 0 0 (by simp)];simp [txtIn]
  by_cases h16:16<=k
  ·intro y l w hb h hy hlen
   have e:txtF (.mk k [] n [] (b :: bs) [g])=kwOf kwAll k++([32]++(decI n++([32]++(txtBinds (b :: bs)++([32,40]++(txtF g++[41])))))):=by
    rw [txtF_nil,if_neg (by omega),if_neg (by omega),if_neg (by omega),if_neg (by omega),if_neg (by omega),if_neg (by omega),if_neg (by omega),if_pos h1,if_pos h16,hat]
    simp [List.append_assoc]
   rw [e] at hlen ⊢
   exact wform_qhi w0 hg P hP k (by omega) n hn (by omega) (b :: bs) (by simp only [List.length_cons];omega) g ih y l w hb h hy hlen
  ·intro y l w hb h hy hlen
   have e:txtF (.mk k [] n [] (b :: bs) [g])=kwOf kwAll k++([32]++(txtBinds (b :: bs)++([32,40]++(txtF g++[41])))):=by
    rw [txtF_nil,if_neg (by omega),if_neg (by omega),if_neg (by omega),if_neg (by omega),if_neg (by omega),if_neg (by omega),if_neg (by omega),if_pos h1,if_neg h16,hat]
    simp [List.append_assoc]
   rw [e] at hlen ⊢
   exact wform_qlo w0 hg P hP k (by omega) n hn (by omega) (b :: bs) (by simp only [List.length_cons];omega) g ih y l w hb h hy hlen
end Go.Proofs.YtncnnbmeacpboaaGreatDoor
/- syntax.Text. (cut out of ZPCd) -/
namespace Go.Proofs.YtncnnbmeacpboaaGreatDoor
open Go.RowKit Go.Chalk
attribute [local go_sem] Oper.semAt_some
theorem stext_any (f:Frm) (y:FrmA) (w:World) (hx:FrmIn w (·<w.heap.size) f y) (hf:FrmFit f) (hg:GS w) :
  Calls Tryz.prog 47 #[.agg (y.cells f).toArray] w (TextPost w.heap.size w (synText f)):=by
 obtain ⟨B,hB⟩:∃ B,B=w.heap.size:=⟨_,rfl⟩
 obtain ⟨W0,hW0⟩:∃ W0,W0=w.alloc (.cells (y.cells f).toArray 64):=⟨_,rfl⟩
 have hb0:Below w.heap.size w W0:=by rw [hW0];exact below_new _ _
 have kB:W0.heap[B]?=some (.cells (y.cells f).toArray 64 (0,0)):=by rw [hW0,hB];exact heap_alloc_new _ _
 have HC:=Lh (fcheck_any f y W0 (hx.later hb0 hb0.size) hf (hg.below hb0).gg)
 have HFO:=Lh (fun (hw:wf f) (P:Nat) (hP:w.heap.size<=P) (W:World) (hb:Below w.heap.size w W) (hwa:WAt W P []) (hl:(txtF f).length<=maxTx)=>form_any w hg P hP f hw y [] W hb hwa ((hx.agree (agree_of_below hb)).mono (fun k hk=>by omega)) (by simpa using hl))
 have H0:=Lh (aI hb0 (aI kB hB))
 have HW0:=Lh hW0
 have HB:=Lh hB
 obtain ⟨R,hR⟩:∃ R,R=synText f:=⟨_,rfl⟩
 rw [<- hR]
 have HWF:=Lh (fun (h:frmCheck f=0)=>frmCheck_wf h)
 have HTL:=Lh (fun (h:frmCheck f=0)=>txtF_len f (frmCheck_wf h).1)
 have HRT:Hid (R=if frmCheck f ≠ 0 then ([],frmCheck f) else toldF (txtF f)):=Lh (by rw [hR];rfl)
 clear hx hf hg hb0 kB hW0 hB hR
 obtain ⟨kind,fname,n,terms,binds,fl⟩:=f
 obtain ⟨yt,yb,yl⟩:=y
 simp only [ndV,FrmA.cells,SlA.val,Frm.kind,Frm.name,Frm.n,Frm.terms,Frm.binds,Frm.l] at HC HFO H0 HW0 HRT HTL ⊢
 have HRE:=Lh (fun (c:Int) (h:c ≠ 0) (h2:frmCheck (.mk kind fname n terms binds fl)=c)=>(show R=([],c) by rw [HRT.out,h2,if_pos h]))
 have HRO:=Lh (fun (h2:frmCheck (.mk kind fname n terms binds fl)=0)=>(show R=toldF (txtF (.mk kind fname n terms binds fl)) by rw [HRT.out,h2,if_neg (by decide)]))
 clear HRT
 obtain ⟨fc,hfc⟩:∃ fc,fc=frmCheck (.mk kind fname n terms binds fl):=⟨_,rfl⟩
 rw [<- hfc] at HC
 have HFC:=Lh hfc
 clear hfc
 go_enter Tryz.func47,Tryz.ntmps47
 go_wp2_with fail
 rw [<- HW0.out]
 refine HC.out.mono ?_
 rintro e w1 ⟨rfl,hb1⟩
 have k1:=(hb1.block _ (gS H0.out.2.1).1).trans H0.out.2.1
 have H1:=Lh (aI k1 (H0.out.1.trans (hb1.mono H0.out.1.size)))
 clear hb1 k1
 by_cases hc:fc=0
 rotate_left
 ·have hc2:(fc==0)=false:=by simpa using hc
  have HE:=Lh (HRE.out fc hc HFC.out.symm)
  go_wp2_with fail
  go_ret2
  exact TextPost.mk' HE.out (BytesV.nil _) H1.out.2
 subst hc
 have HO:=Lh (HRO.out HFC.out.symm)
 obtain ⟨W2,hW2⟩:∃ W2,W2=w1.alloc (.cells #[.pointer none,.slice none 0 0] 142):=⟨_,rfl⟩
 have hb2:Below w1.heap.size w1 W2:=by rw [hW2];exact below_new _ _
 have k2:=(hb2.block _ (gS H1.out.1).1).trans H1.out.1
 obtain ⟨PW,hPW⟩:∃ PW,PW=w1.heap.size:=⟨_,rfl⟩
 have hwa:WAt W2 PW []:=by rw [hW2,hPW];exact wAt_new w1
 have H2:=Lh (aI k2 (aI (H1.out.2.trans (hb2.mono H1.out.2.size)) (aI hwa (show w.heap.size<=PW by have:=H1.out.2.size;omega))))
 have HF:=Lh (HFO.out (HWF.out HFC.out.symm).1 PW H2.out.2.2.2 W2 H2.out.2.1 H2.out.2.2.1 (by have h1:=HTL.out HFC.out.symm;have h2:=(HWF.out HFC.out.symm).2.1;unfold maxTx;omega))
 have HW2:=Lh hW2
 have HPW:=Lh hPW
 have k2':=H1.out.1
 rw [HB.out] at k2'
 have hbl:w.heap.size<w1.heap.size:=(gS k2').1
 have q0:w1.cell? ⟨w.heap.size,0,none⟩=some (.int .i64 kind):=cH k2' rfl
 have q1:w1.cell? ⟨w.heap.size,1,none⟩=some (.string ⟨fname.toArray⟩):=cH k2' rfl
 have q2:w1.cell? ⟨w.heap.size,2,none⟩=some (.int .i64 n):=cH k2' rfl
 have q3:w1.cell? ⟨w.heap.size,3,none⟩=some (.slice yt.a terms.length yt.cap):=cH k2' rfl
 have q4:w1.cell? ⟨w.heap.size,4,none⟩=some (.slice yb.a binds.length yb.cap):=cH k2' rfl
 have q5:w1.cell? ⟨w.heap.size,5,none⟩=some (.slice yl.a fl.length yl.cap):=cH k2' rfl
 clear k2'
 clear hb2 k2 hwa hW2 hPW
 go_wp2_with fail
 rw [<- HW2.out,<- HPW.out]
 refine HF.out.mono ?_
 rintro e w3 ⟨rfl,hwa3,hwr3⟩
 rw [List.nil_append] at hwa3
 have H3:=Lh (aI hwa3 (H2.out.2.1.trans (hwr3.below.mono H2.out.2.2.2)))
 clear hwa3 hwr3
 have HT:=Lh (told_any PW _ w3 H3.out.1 (by have h1:=HTL.out HFC.out.symm;have h2:=(HWF.out HFC.out.symm).2.1;omega))
 clear q0 q1 q2 q3 q4 q5
 go_wp2_with fail
 refine HT.out.mono ?_
 rintro e w4 ⟨v,rfl,hv,hb4⟩
 have H4:=Lh (aI hv (H3.out.2.trans (hb4.mono H2.out.2.2.2)))
 clear hv hb4
 obtain ⟨t2,ht2⟩:∃ t2,t2=(toldF (txtF (.mk kind fname n terms binds fl))).2:=⟨_,rfl⟩
 rw [<- ht2]
 have HT2:=Lh ht2
 clear ht2
 go_wp2_with fail
 go_ret2
 exact ⟨v,by rw [HO.out,<- HT2.out];rfl,by rw [HO.out];exact H4.out.1,H4.out.2⟩
end Go.Proofs.YtncnnbmeacpboaaGreatDoor
