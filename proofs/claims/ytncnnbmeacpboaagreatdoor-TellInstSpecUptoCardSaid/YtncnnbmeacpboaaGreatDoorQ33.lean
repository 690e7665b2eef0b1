/- Parts of the proof. -/
import Derived.Test.YtncnnbmeacpboaaGreatDoorQ28
import Derived.Test.YtncnnbmeacpboaaGreatDoorQ13
import Derived.Test.YtncnnbmeacpboaaGreatDoorQ32
import Derived.Lib.AppendIntMem
set_option maxHeartbeats 1000000
set_option maxRecDepth 100000
set_option linter.unusedVariables false
set_option linter.unusedSimpArgs false
namespace Go.aa
open Go.RowKit
variable {w w':World} {P:Nat} {l s:Bs} {e:Ending}
def dz:Nat:=140737488355328
theorem lV:∀(bs:List aD) (j:Nat) (h:j<bs.length),aO (bs.take (j+1))=aO (bs.take j)++((if j=0 then [] else [44,32])++kE bs[j]):=by
 have more:∀(bs:List aD) (j:Nat) (h:j<bs.length),jl (bs.take (j+1))=jl (bs.take j)++([44,32]++kE bs[j]):=by
  intro bs
  induction bs with
  |nil=>intro j h;simp at h
  |cons b r ih=>
   intro j h;cases j with
   |zero=>simp[jl]
   |succ j=>
    rw[List.take_succ_cons,jl,ih j (by simpa using h),List.take_succ_cons,jl];simp[List.append_assoc]
 intro bs j h;cases bs with
 |nil=>simp at h
 |cons b r=>
  cases j with
  |zero=>simp[aO,jl]
  |succ j=>
   rw[List.take_succ_cons,aO,more r j (by simpa using h),List.take_succ_cons,aO,if_neg (by omega)];simp[List.append_assoc]
theorem tF(bs:List aD):∀(k j:Nat),j+k=bs.length->(aO (bs.take j)).length<=(aO bs).length
 |0,j,h=>by rw[List.take_of_length_le (by omega)];exact Nat.le_refl _
 |k+1,j,h=>by
  have h1:=tF bs k (j+1) (by omega);rw[lV bs j (by omega),List.length_append] at h1;omega
theorem aG(w:World)(o:Obj):Below w.heap.size w (w.alloc o):=(Below.refl _ _).alloc (Nat.le_refl _) _
end Go.aa
namespace Go.Proofs.YtncnnbmeacpboaaGreatDoor
open Go.RowKit Go.aa
attribute [local go_sem] Oper.semAt_some
variable {w w':World} {P:Nat} {l s:Bs} {e:Ending}
structure GS (w:World):Prop where
 gg:GG w
 pow:Lib.TabIs Tryz.prog w "internal/strconv.uint64pow10" .u64 Lib.pow10Tab
theorem Qz:Tryz.prog.globalNamed "internal/strconv.uint64pow10" =some 6:=by kernel_rfl
theorem GS.below{w w':World}(h:GS w)(hb:Below w.heap.size w w'):GS w':=
 have key:∀(g o:Nat) (v:Value),w.cell? ⟨g,o,none⟩=some v->w'.cell? ⟨g,o,none⟩=some v:=fun g o v e=>(hb.cell (p:=⟨g,o,none⟩) (World.block_lt_of_cell? w ⟨g,o,none⟩ e)).trans e
 {
  gg:=h.gg.below hb,
  pow:=var?_below hb Qz (World.block_lt_of_cell? w ⟨6,0,none⟩ (World.var?_cell Qz h.pow 0)) h.pow,
 }
theorem qP(n:Int)(w0 w:World)(hg:GS w0)(hb:Below w0.heap.size w0 w)(h0:0<=n)(h1:n<=9223372036854775807):Calls Tryz.prog 89 #[.int .i64 n] w fun e w'=>e=.returned (.string ⟨(l5 n).toArray⟩)/\Below w.heap.size w w':=by
 refine(Tryz.strconv_Itoa n (by omega) h1 w (hg.below hb).pow).mono ?_;rintro e w' ⟨rfl,k,os,rfl⟩;refine⟨?_,Lib.below_grow _ _ (Nat.le_refl _) _ _⟩;have:Lib.itoa n=l5 n:=by
  obtain⟨m,rfl⟩:=Int.eq_ofNat_of_zero_le h0;rw[l5];exact Lib.itoa_nonneg m
 rw[this]
theorem bK.before{w2:World}(hb:Below w.heap.size w w2)(hP:P<=w.heap.size)(h:bK w2 P l s e w'):bK w P l s e w':=⟨h.1,h.2.1,(Wr.of_below hb hP).trans h.2.2⟩
theorem bK.eq{s':Bs}(h:bK w P l s e w')(hs:s=s'):bK w P l s' e w':=hs▸h
theorem pX(P:Nat)(a l:Bs)(w:World){B:Nat}(hB:w.heap.size=B)(h:iB w P l)(hlen:l.length+a.length<=dz):Calls Tryz.prog 120 #[.pointer (some ⟨P,0,none⟩),.slice (some ⟨B,0,none⟩) 1 1] (w.alloc (.cells #[.string ⟨a.toArray⟩] 9)) (bK w P l a):=by
 subst hB;have:=uj P [a] l w h (by simp) (by unfold dz at hlen;simpa using hlen);simpa using this
theorem OO(P:Nat)(a b l:Bs)(w:World){B:Nat}(hB:w.heap.size=B)(h:iB w P l)(hlen:l.length+(a++b).length<=dz):Calls Tryz.prog 120 #[.pointer (some ⟨P,0,none⟩),.slice (some ⟨B,0,none⟩) 2 2] (w.alloc (.cells #[.string ⟨a.toArray⟩,.string ⟨b.toArray⟩] 9)) (bK w P l (a++b)):=by
 subst hB;have:=uj P [a,b] l w h (by simp) (by unfold dz at hlen;simpa using hlen);simpa using this
theorem OP(P:Nat)(a b c l:Bs)(w:World){B:Nat}(hB:w.heap.size=B)(h:iB w P l)(hlen:l.length+(a++(b++c)).length<=dz):Calls Tryz.prog 120 #[.pointer (some ⟨P,0,none⟩),.slice (some ⟨B,0,none⟩) 3 3] (w.alloc (.cells #[.string ⟨a.toArray⟩,.string ⟨b.toArray⟩,.string ⟨c.toArray⟩] 9)) (bK w P l (a++(b++c))):=by
 subst hB;have:=uj P [a,b,c] l w h (by simp) (by unfold dz at hlen;simpa using hlen);simpa using this
theorem TS(P:Nat)(a b c d l:Bs)(w:World){B:Nat}(hB:w.heap.size=B)(h:iB w P l)(hlen:l.length+(a++(b++(c++d))).length<=dz):Calls Tryz.prog 120 #[.pointer (some ⟨P,0,none⟩),.slice (some ⟨B,0,none⟩) 4 4] (w.alloc (.cells #[.string ⟨a.toArray⟩,.string ⟨b.toArray⟩,.string ⟨c.toArray⟩,.string ⟨d.toArray⟩] 9)) (bK w P l (a++(b++(c++d)))):=by
 subst hB;have:=uj P [a,b,c,d] l w h (by simp) (by unfold dz at hlen;simpa using hlen);simpa using this
theorem Jm(w0:World)(hg:GS w0)(P:Nat)(name:Bs)(n:Int)(h0:0<=n)(h1:n<=9223372036854775807)(l:Bs)(w:World)(hb:Below w0.heap.size w0 w)(h:iB w P l)(hlen:l.length+(l5 n).length<=dz):
  Calls Tryz.prog 121 #[.pointer (some ⟨P,0,none⟩),.agg #[.int .i64 1,.string ⟨name.toArray⟩,.int .i64 n]] w (bK w P l (l5 n)):=by
 have hb0:Below w.heap.size w (w.alloc (.cells #[.int .i64 1,.string ⟨name.toArray⟩,.int .i64 n] 92)):=aG _ _;have HI:=Lh (qP n w0 _ hg (hb.trans (hb0.mono hb.size)) h0 h1);have HB:=Lh (aI hb0 (aI (h.below hb0) (Nat.le_of_lt h.lt)));have HL:=Lh hlen;clear hb h hb0 hg h0 h1 hlen;go_enter Tryz.func121,Tryz.ntmps121;go_wp2_with fail;refine HI.out.mono ?_;rintro e w2 ⟨rfl,hb2⟩;have HB2:=Lh (aI (HB.out.1.trans (hb2.mono HB.out.1.size)) (HB.out.2.1.below hb2));clear hb2;go_wp2_with fail;refine(pX P (l5 n) l w2 rfl HB2.out.2 HL.out).mono ?_;rintro e w3 hp;have HP:=Lh (hp.before HB2.out.1 HB.out.2.2);obtain⟨rfl,_,_⟩:=hp;go_wp2_with fail;go_end0;exact HP.out
theorem Jn(w0:World)(hg:GS w0)(P:Nat)(name:Bs)(n:Int)(l:Bs)(w:World)(hb:Below w0.heap.size w0 w)(h:iB w P l)(hlen:l.length+(name).length<=dz):
  Calls Tryz.prog 121 #[.pointer (some ⟨P,0,none⟩),.agg #[.int .i64 2,.string ⟨name.toArray⟩,.int .i64 n]] w (bK w P l (name)):=by
 have hb0:Below w.heap.size w (w.alloc (.cells #[.int .i64 2,.string ⟨name.toArray⟩,.int .i64 n] 92)):=aG _ _;have HB:=Lh (aI hb0 (aI (h.below hb0) (Nat.le_of_lt h.lt)));have HL:=Lh hlen;clear hb h hb0 hg hlen;go_enter Tryz.func121,Tryz.ntmps121;go_wp2_with fail;refine(pX P name l (w.alloc (.cells #[.int .i64 2,.string ⟨name.toArray⟩,.int .i64 n] 92)) (by simp) HB.out.2.1 HL.out).mono ?_;rintro e w3 hp;have HP:=Lh (hp.before HB.out.1 HB.out.2.2);obtain⟨rfl,_,_⟩:=hp;go_wp2_with fail;go_end0;exact HP.out
theorem M4(w0:World)(hg:GS w0)(P:Nat)(kind:Int)(e1:(kind==1)=false)(e2:(kind==2)=false)(name:Bs)(n:Int)(l:Bs)(w:World)(hb:Below w0.heap.size w0 w)(h:iB w P l)(hlen:l.length+(eO ig kind++([40]++(name++[41]))).length<=dz):
  Calls Tryz.prog 121 #[.pointer (some ⟨P,0,none⟩),.agg #[.int .i64 kind,.string ⟨name.toArray⟩,.int .i64 n]] w (bK w P l (eO ig kind++([40]++(name++[41])))):=by
 obtain⟨W0,hW0⟩:∃W0,W0=w.alloc (.cells #[.int .i64 kind,.string ⟨name.toArray⟩,.int .i64 n] 92):=⟨_,rfl⟩;have hb0:Below w.heap.size w W0:=by rw[hW0];exact aG _ _
 have hx:W0.heap[w.heap.size]?=some (.cells #[.int .i64 kind,.string ⟨name.toArray⟩,.int .i64 n] 92 (0,0)):=by rw[hW0];exact heap_alloc_new _ _
 have HE:Hid (∀w',Wr P 5 W0 w'->w'.cell? ⟨w.heap.size,0,none⟩=some (.int .i64 kind)/\w'.cell? ⟨w.heap.size,1,none⟩=some (.string ⟨name.toArray⟩)/\w'.cell? ⟨w.heap.size,2,none⟩=some (.int .i64 n)):=Lh (fun w' hW=>by
  have e0:=hW.kept hx (by decide) (by have:=h.lt;omega);exact⟨cH e0 rfl,cH e0 rfl,cH e0 rfl⟩)
 have HB:=Lh (aI hb0 (aI (h.below hb0) (aI (Nat.le_of_lt (h.below hb0).lt) (Nat.le_of_lt h.lt))));have HW0:=Lh hW0;have HL:=Lh hlen;have Fh:=Lh (IW W0.drew);have Fj:=Lh (fun(W:World) (hb:oO W W0.heap.size ig)=>sw ig kind W0.heap.size W hb Hf);clear hb h hx hb0 hW0 hg hlen;go_enter Tryz.func121,Tryz.ntmps121;go_wp2_with fail;rw[<-HW0.out];refine wp_region_noPanic ?_;refine wp_region_held_drew (S:=fun w'=>w'.cell? ⟨w.heap.size,0,none⟩=some (.int .i64 kind)/\w'.cell? ⟨w.heap.size,1,none⟩=some (.string ⟨name.toArray⟩)/\w'.cell? ⟨w.heap.size,2,none⟩=some (.int .i64 n)) (by kernel_rfl) (HE.out _ (Wr.of_below (Below.refl _ _).drew HB.out.2.2.1)) (fun hHeld=>?_);refine uy (i:=0) rfl hHeld ?_;refine uy (i:=2) rfl hHeld ?_;refine uy (i:=3) rfl hHeld ?_;refine uy (i:=5) rfl hHeld ?_;refine uy (i:=6) rfl hHeld ?_;refine wpAnyH_ready (rs:=[1]) (by kernel_rfl) (by simp) ?_;refine dJ rfl (fun K hK=>?_) AllReadyH.nil;go_simp;go_at_call 165;refine Fh.out.mono ?_;rintro e w2 ⟨rfl,rfl⟩;have hb2:Below W0.heap.size W0 (W0.drew.alloc (.map (gY 0 ig).toArray 5)):=(Below.refl _ _).drew.alloc (Nat.le_refl _) _;have hk2:oO (W0.drew.alloc (.map (gY 0 ig).toArray 5)) W0.heap.size ig:=heap_alloc_new W0.drew _;generalize W0.drew.alloc (.map (gY 0 ig).toArray 5)=w2 at hb2 hk2 ⊢;have H2:=Lh (aI hb2 hk2);clear hb2 hk2;go_simp;refine hK.out _ _ (HE.out _ (Wr.of_below H2.out.1 HB.out.2.2.1)) fun hHeld=>?_;clear hK K
 try simp only[Act.put,List.setIfInBounds_toArray,List.set_cons_zero,List.set_cons_succ]
 refine wpAnyH_ready (rs:=[4]) (by kernel_rfl) (by simp) ?_;refine dJ rfl (fun K hK=>?_) AllReadyH.nil;go_simp;go_at_call 125;refine(Fj.out w2 H2.out.2).mono ?_;rintro e w3 ⟨rfl,hb3⟩;have H3:=Lh (H2.out.1.trans (hb3.mono H2.out.1.size));clear hb3;go_simp;refine hK.out _ _ (HE.out _ (Wr.of_below H3.out HB.out.2.2.1)) fun hHeld=>?_;clear hK K
 try simp only[Act.put,List.setIfInBounds_toArray,List.set_cons_zero,List.set_cons_succ]
 refine wpAnyH_ready (rs:=[7]) (by kernel_rfl) (by simp) ?_;refine dJ rfl (fun K hK=>?_) AllReadyH.nil;go_simp;refine hK.out _ _ (HE.out _ (Wr.of_below (H3.out.alloc H3.out.size _) HB.out.2.2.1)) fun hHeld=>?_;clear hK K
 try simp only[Act.put,List.setIfInBounds_toArray,List.set_cons_zero,List.set_cons_succ]
 refine wpAnyH_ready (rs:=[8]) (by kernel_rfl) (by simp) ?_;refine dJ rfl (fun K hK=>?_) AllReadyH.nil;go_simp;go_at_call 120;refine(TS P (eO ig kind) [40] name [41] l w3 rfl (HB.out.2.1.below H3.out) HL.out).mono ?_;rintro e w4 hp;have HP:=Lh (hp.before H3.out HB.out.2.2.1);obtain⟨rfl,_,_⟩:=hp;go_simp;refine hK.out _ _ (HE.out _ HP.out.2.2) fun hHeld=>?_;clear hK K
 try simp only[Act.put,List.setIfInBounds_toArray,List.set_cons_zero,List.set_cons_succ]
 refine wpAnyH_done (by kernel_rfl) ?_ _;refine NoPanic.normal ?_;go_wp2_with fail;go_end0;exact HP.out.before HB.out.1 HB.out.2.2.2
theorem oN(w0:World)(hg:GS w0)(P:Nat)(t:bH)(l:Bs)(w:World)(hb:Below w0.heap.size w0 w)(h:iB w P l)(ht:aA t=true)(hlen:l.length+(bC t).length<=dz):
  Calls Tryz.prog 121 #[.pointer (some ⟨P,0,none⟩),.agg #[.int .i64 t.kind,.string ⟨t.name.toArray⟩,.int .i64 t.n]] w (bK w P l (bC t)):=by
 obtain⟨kind,name,n⟩:=t;unfold aA at ht;simp only at ht ⊢;by_cases h1:kind=1
 ·subst h1;rw[if_pos rfl] at ht;simp only[dn,Bool.and_eq_true,decide_eq_true_eq] at ht;exact Jm w0 hg P name n ht.2.1 (by omega) l w hb h hlen
 ·by_cases h2:kind=2
  ·subst h2;exact Jn w0 hg P name n l w hb h hlen
  ·have e:bC ⟨kind,name,n⟩=eO ig kind++([40]++(name++[41])):=by unfold bC;rw[if_neg h1,if_neg h2]
   rw[e] at hlen ⊢;exact M4 w0 hg P kind (by simpa using h1) (by simpa using h2) name n l w hb h hlen
end Go.Proofs.YtncnnbmeacpboaaGreatDoor
