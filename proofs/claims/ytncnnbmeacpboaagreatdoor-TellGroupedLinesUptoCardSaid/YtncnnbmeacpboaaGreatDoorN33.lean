/- Joined texts: PWrF. -/
import Derived.Test.YtncnnbmeacpboaaGreatDoorN28
import Derived.Test.YtncnnbmeacpboaaGreatDoorN13
import Derived.Test.YtncnnbmeacpboaaGreatDoorN32
import Derived.Test.YtncnnbmeacpboaaGreatDoorN07
import Derived.Lib.AppendIntMem
set_option maxHeartbeats 1000000
set_option maxRecDepth 100000
set_option linter.unusedVariables false
set_option linter.unusedSimpArgs false
/- The writer of layer syntax: terms, binds, formulas, rules. (written by tools/gen_pwr.py) -/
namespace Go.Chalk
open Go.RowKit
def maxTx:Nat:=140737488355328
theorem txtBinds_take:∀ (bs:List Bnd) (j:Nat) (h:j<bs.length),txtBinds (bs.take (j+1))=txtBinds (bs.take j)++((if j=0 then [] else [44,32])++txtBind bs[j]):=by
 have more:∀ (bs:List Bnd) (j:Nat) (h:j<bs.length),txtMore (bs.take (j+1))=txtMore (bs.take j)++([44,32]++txtBind bs[j]):=by
  intro bs
  induction bs with
  | nil=>intro j h;simp at h
  | cons b r ih =>
   intro j h
   cases j with
   | zero=>simp [txtMore]
   | succ j =>
    rw [List.take_succ_cons,txtMore,ih j (by simpa using h),List.take_succ_cons,txtMore]
    simp [List.append_assoc]
 intro bs j h
 cases bs with
 | nil=>simp at h
 | cons b r =>
  cases j with
  | zero=>simp [txtBinds,txtMore]
  | succ j =>
   rw [List.take_succ_cons,txtBinds,more r j (by simpa using h),List.take_succ_cons,txtBinds,if_neg (by omega)]
   simp [List.append_assoc]
theorem txtBinds_le (bs:List Bnd):∀ (k j:Nat),j+k=bs.length->(txtBinds (bs.take j)).length<=(txtBinds bs).length
 | 0,j,h=>by rw [List.take_of_length_le (by omega)];exact Nat.le_refl _
 | k+1,j,h=>by
  have h1:=txtBinds_le bs k (j+1) (by omega)
  rw [txtBinds_take bs j (by omega),List.length_append] at h1
  omega
theorem below_new (w:World) (o:Obj):Below w.heap.size w (w.alloc o):=(Below.refl _ _).alloc (Nat.le_refl _) _
end Go.Chalk
namespace Go.Proofs.YtncnnbmeacpboaaGreatDoor
open Go.RowKit Go.Chalk
attribute [local go_sem] Oper.semAt_some
structure GS (w:World):Prop where
 gg:GG w
 pow : Lib.TabIs Tryz.prog w "internal/strconv.uint64pow10" .u64 Lib.pow10Tab
theorem gPow : Tryz.prog.globalNamed "internal/strconv.uint64pow10" = some 6 := by kernel_rfl
theorem GS.below {w w':World} (h:GS w) (hb:Below w.heap.size w w'):GS w' :=
 have key:∀ (g o:Nat) (v:Value),w.cell? ⟨g,o,none⟩=some v->w'.cell? ⟨g,o,none⟩=some v:=fun g o v e=>(hb.cell (p:=⟨g,o,none⟩) (World.block_lt_of_cell? w ⟨g,o,none⟩ e)).trans e
 {
  gg:=h.gg.below hb,
  pow:=var?_below hb gPow (World.block_lt_of_cell? w ⟨6,0,none⟩ (World.var?_cell gPow h.pow 0)) h.pow,
 }
theorem itoa_any (n:Int) (w0 w:World) (hg:GS w0) (hb:Below w0.heap.size w0 w) (h0:0<=n) (h1:n<=9223372036854775807):Calls Tryz.prog 89 #[.int .i64 n] w fun e w'=>e=.returned (.string ⟨(decI n).toArray⟩)/\Below w.heap.size w w':=by
 refine (Tryz.strconv_Itoa n (by omega) h1 w (hg.below hb).pow).mono ?_
 rintro e w' ⟨rfl,k,os,rfl⟩
 refine ⟨?_,Lib.below_grow _ _ (Nat.le_refl _) _ _⟩
 have:Lib.itoa n=decI n:=by
  obtain ⟨m,rfl⟩:=Int.eq_ofNat_of_zero_le h0
  rw [decI];exact Lib.itoa_nonneg m
 rw [this]
theorem WPost.before {w w2 w':World} {P:Nat} {l s:Bs} {e:Ending} (hb:Below w.heap.size w w2) (hP:P<=w.heap.size) (h:WPost w2 P l s e w'):WPost w P l s e w':=⟨h.1,h.2.1,(Wr.of_below hb hP).trans h.2.2⟩
theorem WPost.eq {w w':World} {P:Nat} {l s s':Bs} {e:Ending} (h:WPost w P l s e w') (hs:s=s'):WPost w P l s' e w':=hs ▸ h
theorem put1 (P:Nat) (a l:Bs) (w:World) {B:Nat} (hB:w.heap.size=B) (h:WAt w P l) (hlen:l.length+a.length<=maxTx):Calls Tryz.prog 120 #[.pointer (some ⟨P,0,none⟩),.slice (some ⟨B,0,none⟩) 1 1] (w.alloc (.cells #[.string ⟨a.toArray⟩] 9)) (WPost w P l a):=by
 subst hB
 have:=put_new P [a] l w h (by simp) (by unfold maxTx at hlen;simpa using hlen)
 simpa using this
theorem put2 (P:Nat) (a b l:Bs) (w:World) {B:Nat} (hB:w.heap.size=B) (h:WAt w P l) (hlen:l.length+(a++b).length<=maxTx):Calls Tryz.prog 120 #[.pointer (some ⟨P,0,none⟩),.slice (some ⟨B,0,none⟩) 2 2] (w.alloc (.cells #[.string ⟨a.toArray⟩,.string ⟨b.toArray⟩] 9)) (WPost w P l (a++b)):=by
 subst hB
 have:=put_new P [a,b] l w h (by simp) (by unfold maxTx at hlen;simpa using hlen)
 simpa using this
theorem put3 (P:Nat) (a b c l:Bs) (w:World) {B:Nat} (hB:w.heap.size=B) (h:WAt w P l) (hlen:l.length+(a++(b++c)).length<=maxTx):Calls Tryz.prog 120 #[.pointer (some ⟨P,0,none⟩),.slice (some ⟨B,0,none⟩) 3 3] (w.alloc (.cells #[.string ⟨a.toArray⟩,.string ⟨b.toArray⟩,.string ⟨c.toArray⟩] 9)) (WPost w P l (a++(b++c))):=by
 subst hB
 have:=put_new P [a,b,c] l w h (by simp) (by unfold maxTx at hlen;simpa using hlen)
 simpa using this
theorem put4 (P:Nat) (a b c d l:Bs) (w:World) {B:Nat} (hB:w.heap.size=B) (h:WAt w P l) (hlen:l.length+(a++(b++(c++d))).length<=maxTx):Calls Tryz.prog 120 #[.pointer (some ⟨P,0,none⟩),.slice (some ⟨B,0,none⟩) 4 4] (w.alloc (.cells #[.string ⟨a.toArray⟩,.string ⟨b.toArray⟩,.string ⟨c.toArray⟩,.string ⟨d.toArray⟩] 9)) (WPost w P l (a++(b++(c++d)))):=by
 subst hB
 have:=put_new P [a,b,c,d] l w h (by simp) (by unfold maxTx at hlen;simpa using hlen)
 simpa using this
theorem wterm_num (w0:World) (hg:GS w0) (P:Nat) (name:Bs) (n:Int) (h0:0<=n) (h1:n<=9223372036854775807) (l:Bs) (w:World) (hb:Below w0.heap.size w0 w) (h:WAt w P l) (hlen:l.length+(decI n).length<=maxTx) :
  Calls Tryz.prog 121 #[.pointer (some ⟨P,0,none⟩),.agg #[.int .i64 1,.string ⟨name.toArray⟩,.int .i64 n]] w (WPost w P l (decI n)):=by
 have hb0:Below w.heap.size w (w.alloc (.cells #[.int .i64 1,.string ⟨name.toArray⟩,.int .i64 n] 92)):=below_new _ _
 have HI:=Lh (itoa_any n w0 _ hg (hb.trans (hb0.mono hb.size)) h0 h1)
 have HB:=Lh (aI hb0 (aI (h.below hb0) (Nat.le_of_lt h.lt)))
 have HL:=Lh hlen
 clear hb h hb0 hg h0 h1 hlen
 go_enter Tryz.func121,Tryz.ntmps121
 go_wp2_with fail
 refine HI.out.mono ?_
 rintro e w2 ⟨rfl,hb2⟩
 have HB2:=Lh (aI (HB.out.1.trans (hb2.mono HB.out.1.size)) (HB.out.2.1.below hb2))
 clear hb2
 go_wp2_with fail
 refine (put1 P (decI n) l w2 rfl HB2.out.2 HL.out).mono ?_
 rintro e w3 hp
 have HP:=Lh (hp.before HB2.out.1 HB.out.2.2)
 obtain ⟨rfl,_,_⟩:=hp
 go_wp2_with fail
 go_end0
 exact HP.out
theorem wterm_var (w0:World) (hg:GS w0) (P:Nat) (name:Bs) (n:Int) (l:Bs) (w:World) (hb:Below w0.heap.size w0 w) (h:WAt w P l) (hlen:l.length+(name).length<=maxTx) :
  Calls Tryz.prog 121 #[.pointer (some ⟨P,0,none⟩),.agg #[.int .i64 2,.string ⟨name.toArray⟩,.int .i64 n]] w (WPost w P l (name)):=by
 have hb0:Below w.heap.size w (w.alloc (.cells #[.int .i64 2,.string ⟨name.toArray⟩,.int .i64 n] 92)):=below_new _ _
 have HB:=Lh (aI hb0 (aI (h.below hb0) (Nat.le_of_lt h.lt)))
 have HL:=Lh hlen
 clear hb h hb0 hg hlen
 go_enter Tryz.func121,Tryz.ntmps121
 go_wp2_with fail
 refine (put1 P name l (w.alloc (.cells #[.int .i64 2,.string ⟨name.toArray⟩,.int .i64 n] 92)) (by simp) HB.out.2.1 HL.out).mono ?_
 rintro e w3 hp
 have HP:=Lh (hp.before HB.out.1 HB.out.2.2)
 obtain ⟨rfl,_,_⟩:=hp
 go_wp2_with fail
 go_end0
 exact HP.out
theorem wterm_kw (w0:World) (hg:GS w0) (P:Nat) (kind:Int) (e1:(kind==1)=false) (e2:(kind==2)=false) (name:Bs) (n:Int) (l:Bs) (w:World) (hb:Below w0.heap.size w0 w) (h:WAt w P l) (hlen:l.length+(kwOf kwTerm kind++([40]++(name++[41]))).length<=maxTx) :
  Calls Tryz.prog 121 #[.pointer (some ⟨P,0,none⟩),.agg #[.int .i64 kind,.string ⟨name.toArray⟩,.int .i64 n]] w (WPost w P l (kwOf kwTerm kind++([40]++(name++[41])))):=by
 obtain ⟨W0,hW0⟩:∃ W0,W0=w.alloc (.cells #[.int .i64 kind,.string ⟨name.toArray⟩,.int .i64 n] 92):=⟨_,rfl⟩
 have hb0:Below w.heap.size w W0:=by rw [hW0];exact below_new _ _
 have hx:W0.heap[w.heap.size]?=some (.cells #[.int .i64 kind,.string ⟨name.toArray⟩,.int .i64 n] 92 (0,0)):=by rw [hW0];exact heap_alloc_new _ _
 have HE:Hid (∀ w',Wr P 5 W0 w'->w'.cell? ⟨w.heap.size,0,none⟩=some (.int .i64 kind)/\w'.cell? ⟨w.heap.size,1,none⟩=some (.string ⟨name.toArray⟩)/\w'.cell? ⟨w.heap.size,2,none⟩=some (.int .i64 n)):=Lh (fun w' hW=>by
  have e0:=hW.kept hx (by decide) (by have:=h.lt;omega)
  exact ⟨cH e0 rfl,cH e0 rfl,cH e0 rfl⟩)
 have HB:=Lh (aI hb0 (aI (h.below hb0) (aI (Nat.le_of_lt (h.below hb0).lt) (Nat.le_of_lt h.lt))))
 have HW0:=Lh hW0
 have HL:=Lh hlen
 have HKD:=Lh (terms_any W0.drew)
 have HKO:=Lh (fun (W:World) (hb:KwAt W W0.heap.size kwTerm)=>wof_kw kwTerm kind W0.heap.size W hb kwTerm_nd)
 clear hb h hx hb0 hW0 hg hlen
 go_enter Tryz.func121,Tryz.ntmps121
 go_wp2_with fail
 rw [<- HW0.out]
 refine wp_region_noPanic ?_
 refine wp_region_held_drew (S:=fun w'=>w'.cell? ⟨w.heap.size,0,none⟩=some (.int .i64 kind)/\w'.cell? ⟨w.heap.size,1,none⟩=some (.string ⟨name.toArray⟩)/\w'.cell? ⟨w.heap.size,2,none⟩=some (.int .i64 n)) (by kernel_rfl) (HE.out _ (Wr.of_below (Below.refl _ _).drew HB.out.2.2.1)) (fun hHeld=>?_)
 refine tkA (i:=0) rfl hHeld ?_
 refine tkA (i:=2) rfl hHeld ?_
 refine tkA (i:=3) rfl hHeld ?_
 refine tkA (i:=5) rfl hHeld ?_
 refine tkA (i:=6) rfl hHeld ?_
 refine wpAnyH_ready (rs:=[1]) (by kernel_rfl) (by simp) ?_
 refine cons_at rfl (fun K hK=>?_) AllReadyH.nil
 go_simp
 go_at_call 165
 refine HKD.out.mono ?_
 rintro e w2 ⟨rfl,rfl⟩
 have hb2:Below W0.heap.size W0 (W0.drew.alloc (.map (kwEs 0 kwTerm).toArray 5)):=(Below.refl _ _).drew.alloc (Nat.le_refl _) _
 have hk2:KwAt (W0.drew.alloc (.map (kwEs 0 kwTerm).toArray 5)) W0.heap.size kwTerm:=heap_alloc_new W0.drew _
 generalize W0.drew.alloc (.map (kwEs 0 kwTerm).toArray 5)=w2 at hb2 hk2 ⊢
 have H2:=Lh (aI hb2 hk2)
 clear hb2 hk2
 go_simp
 refine hK.out _ _ (HE.out _ (Wr.of_below H2.out.1 HB.out.2.2.1)) fun hHeld=>?_
 clear hK K
 try simp only [Act.put,List.setIfInBounds_toArray,List.set_cons_zero,List.set_cons_succ]
 refine wpAnyH_ready (rs:=[4]) (by kernel_rfl) (by simp) ?_
 refine cons_at rfl (fun K hK=>?_) AllReadyH.nil
 go_simp
 go_at_call 125
 refine (HKO.out w2 H2.out.2).mono ?_
 rintro e w3 ⟨rfl,hb3⟩
 have H3:=Lh (H2.out.1.trans (hb3.mono H2.out.1.size))
 clear hb3
 go_simp
 refine hK.out _ _ (HE.out _ (Wr.of_below H3.out HB.out.2.2.1)) fun hHeld=>?_
 clear hK K
 try simp only [Act.put,List.setIfInBounds_toArray,List.set_cons_zero,List.set_cons_succ]
 refine wpAnyH_ready (rs:=[7]) (by kernel_rfl) (by simp) ?_
 refine cons_at rfl (fun K hK=>?_) AllReadyH.nil
 go_simp
 refine hK.out _ _ (HE.out _ (Wr.of_below (H3.out.alloc H3.out.size _) HB.out.2.2.1)) fun hHeld=>?_
 clear hK K
 try simp only [Act.put,List.setIfInBounds_toArray,List.set_cons_zero,List.set_cons_succ]
 refine wpAnyH_ready (rs:=[8]) (by kernel_rfl) (by simp) ?_
 refine cons_at rfl (fun K hK=>?_) AllReadyH.nil
 go_simp
 go_at_call 120
 refine (put4 P (kwOf kwTerm kind) [40] name [41] l w3 rfl (HB.out.2.1.below H3.out) HL.out).mono ?_
 rintro e w4 hp
 have HP:=Lh (hp.before H3.out HB.out.2.2.1)
 obtain ⟨rfl,_,_⟩:=hp
 go_simp
 refine hK.out _ _ (HE.out _ HP.out.2.2) fun hHeld=>?_
 clear hK K
 try simp only [Act.put,List.setIfInBounds_toArray,List.set_cons_zero,List.set_cons_succ]
 refine wpAnyH_done (by kernel_rfl) ?_ _
 refine NoPanic.normal ?_
 go_wp2_with fail
 go_end0
 exact HP.out.before HB.out.1 HB.out.2.2.2
theorem wterm_any (w0:World) (hg:GS w0) (P:Nat) (t:Trm) (l:Bs) (w:World) (hb:Below w0.heap.size w0 w) (h:WAt w P l) (ht:termedF t=true) (hlen:l.length+(txtTerm t).length<=maxTx) :
  Calls Tryz.prog 121 #[.pointer (some ⟨P,0,none⟩),.agg #[.int .i64 t.kind,.string ⟨t.name.toArray⟩,.int .i64 t.n]] w (WPost w P l (txtTerm t)):=by
 obtain ⟨kind,name,n⟩:=t
 unfold termedF at ht
 simp only at ht ⊢
 by_cases h1:kind=1
 ·subst h1
  rw [if_pos rfl] at ht
  simp only [numberB,Bool.and_eq_true,decide_eq_true_eq] at ht
  exact wterm_num w0 hg P name n ht.2.1 (by omega) l w hb h hlen
 ·by_cases h2:kind=2
  ·subst h2
   exact wterm_var w0 hg P name n l w hb h hlen
  ·have e:txtTerm ⟨kind,name,n⟩=kwOf kwTerm kind++([40]++(name++[41])):=by unfold txtTerm;rw [if_neg h1,if_neg h2]
   rw [e] at hlen ⊢
   exact wterm_kw w0 hg P kind (by simpa using h1) (by simpa using h2) name n l w hb h hlen
end Go.Proofs.YtncnnbmeacpboaaGreatDoor
