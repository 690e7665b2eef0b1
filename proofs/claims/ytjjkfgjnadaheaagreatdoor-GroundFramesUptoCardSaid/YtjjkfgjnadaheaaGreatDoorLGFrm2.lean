/- Joined texts: RfG, WGFrm. -/
import Derived.Test.YtjjkfgjnadaheaaGreatDoorB36
import Derived.Test.YtjjkfgjnadaheaaGreatDoorLGFrm1
import Derived.Test.YtjjkfgjnadaheaaGreatDoorB37
set_option maxHeartbeats 16000000
set_option maxRecDepth 100000
set_option linter.unusedVariables false
set_option linter.unusedSimpArgs false
/- The reference's one and Frame. -/
namespace Go.Chalk
open Go.RowKit
variable {P:Program}
theorem wpList_append_manyO {W0:World} {B:Nat} (hB:W0.heap.size=B) {lo:Nat} {F:Nat->Prop} {ops:Array Oper} {rest:List Oper} {o:Oper} {a:Act} {Q:Exit->Act->World->Prop} (hgd:o.guard=none) (s x:Operand) (t:TypeId)
  (ho:o.op=.call { callee:=.builtin .append,args:=#[s,x],argTypes:=#[t,t] }) (e:TypeId) (i:TypeInfo) (z:Value) (size bytes:Nat) (ht:P.underlying t=some (.slice e)) (hi:P.info? e=some i) (hz:i.zero=some z)
  (hsize:i.size=size) (hby:i.bytes=bytes) (hzs:z.cells.size=size) (hsz:0<size) (v:Value) (xs ys:List D) (m:Nat) (hm:ys.length=m) (hm0:0<m) (cs:List Value) (T:TypeId) (hs:a.eval s=v) (hx:a.eval x=.slice (some ⟨B,0,none⟩) m m)
  (hv:OwnN W0 lo F e size v xs) (hd:DsAt W0 F ys cs) (hlo:lo<=W0.heap.size) (hw:widths ys=m*size) (h63:xs.length+m<=maxLen) (hbytes:(xs.length+m)*bytes<=140737488355328)
  (h:∀ ao cap w',OwnN w' lo F e size (.slice ao (xs.length+m) cap) (xs++ys)->Below lo W0 w'->wpList P ops Q rest (a.put o.dst (.slice ao (xs.length+m) cap)) w') :
  wpList P ops Q (o :: rest) a (W0.alloc (.cells cs.toArray T)):=by
 subst hm
 obtain ⟨r,h1,h2⟩:=hv
 have hb:Below W0.heap.size W0 (W0.alloc (.cells cs.toArray T)):=(Below.refl _ _).alloc (Nat.le_refl _) _
 have hnb:(W0.alloc (.cells cs.toArray T)).heap[W0.heap.size]?=some (.cells cs.toArray T (0,0)):=boxed (B:=W0.heap.size+1) (Below.refl _ _) (by omega)
 have hnews:∀ j u,cs[j]?=some u->(W0.alloc (.cells cs.toArray T)).cell? ((⟨W0.heap.size,0,none⟩:Addr).add j)=some u:=fun j u hu=>by
  have hc:=cH (i:=j) hnb (v:=u) (by simpa using hu)
  unfold Addr.add
  by_cases h0:j=0
  ·subst h0;simpa using hc
  ·rw [if_neg h0];simpa using hc
 have hlen:cs.length=ys.length*size:=by rw [DsAt.length _ _ hd,hw]
 have hd':DsAt (W0.alloc (.cells cs.toArray T)) F ys cs:=DsAt.agree ((agree_of_below hb).mono h1.lt) _ _ hd
 have h1':=h1.alloc (.cells cs.toArray T)
 obtain ⟨cs0,k1,k2⟩:=h1'.cells
 refine wpList_append_lies (W0.alloc (.cells cs.toArray T)) hgd s x t ho 0 e i z size bytes ht hi hz hsize hby hzs hsz v xs.length cs0 hs k1 ⟨W0.heap.size,0,none⟩ ys.length ys.length cs (by rw [hx,hB]) hlen hnews (DsAt.one _ _ hd) hm0 h63 hbytes (Nat.zero_le _) _ rfl (fun g cap w' hown hgr hat hlt=>?_)
 obtain ⟨g1,g2,g3⟩:=h1'.appended (ys:=ys) k2 hown hgr (by rcases hat with h | h;exact .inl h.symm;exact .inr (by rw [h];rfl)) hd'
 have hm0:Mod (fun k=>r=some k) W0 w':=(Mod.of_below (S:=fun k=>r=some k) hb).trans g2 (fun _ _ h=>h)
 refine h _ _ _ ⟨_,g1,fun k hk=>?_⟩ (hm0.below hlo (fun k hk=>h2 k hk))
 rcases g3 with g3 | g3
 ·rw [g3] at hk;exact h2 k hk
 ·rw [g3] at hk;simp at hk;omega
theorem OwnN.ints {w:World} {lo:Nat} {e:TypeId} {v:Value} {l:List Int} (h:OwnN w lo (fun _=>False) e 1 v (dints l)):∃ u:SlA,v=u.val l.length/\SlIn w (·<w.heap.size) (dints l) u:=by
 obtain ⟨r,h1,_⟩:=h
 obtain ⟨u,hu,hs⟩:=h1.sl (G:=fun k=>k<w.heap.size) (fun _ h=>h.elim) (fun k hk=>h1.row_lt hk) (by rw [dints_widths];simp)
 exact ⟨u,by rw [hu];simp,hs⟩
end Go.Chalk
namespace Go.Proofs.YtjjkfgjnadaheaaGreatDoor
open Go.RowKit Go.Chalk
attribute [local go_sem] Oper.semAt_some
def OneP (w:World) (vs:List Int) (e:Ending) (w':World):Prop:=∃ k0 k1 k2 a n cap,e=.returned (.agg #[.int .i64 k0,.int .i64 k1,.int .i64 k2,.slice a n cap])/\DAt w' (fun k=>w.heap.size<=k/\k<w'.heap.size) (oneT vs).toD [.int .i64 k0,.int .i64 k1,.int .i64 k2,.slice a n cap]/\Below w.heap.size w w'
theorem rone_any (vs:List Int) (u:SlA) (w:World) (hu:SlIn w (·<w.heap.size) (dints vs) u) (hmax:vs.length<=2000000) :
  Calls Tryz.prog 50 #[.slice u.a vs.length u.cap] w (OneP w vs):=by
 obtain ⟨hat,_,_,hI,hcell⟩:=hu.ints
 obtain ⟨W0,hW0⟩:∃ W0,W0=w.alloc (.cells #[.int .i64 0,.int .i64 0,.int .i64 0,.slice none 0 0] 39):=⟨_,rfl⟩
 have hb0:Below w.heap.size w W0:=by rw [hW0];exact (Below.refl _ _).alloc (Nat.le_refl _) _
 have hz0:W0.heap.size=w.heap.size+1:=by rw [hW0];simp
 have hq0:W0.heap[w.heap.size]?=some (.cells #[.int .i64 0,.int .i64 0,.int .i64 0,.slice none 0 0] 39 (0,0)):=by rw [hW0,heap_get,if_pos rfl]
 have HB:=Lh (aI hb0 (aI hz0 hq0))
 have HW0:=Lh hW0.symm
 have HA:=Lh hat
 have HC:=Lh (fun (j:Nat) (hj:j<vs.length)=>aI (hcell j hj) (hI _ (List.getElem_mem hj)))
 obtain ⟨i0,hi0,hz0',hz1',hz2'⟩:=info_parts infoTree
 clear hat hI hcell hu hb0 hz0 hq0 hW0
 go_enter Tryz.func50,Tryz.ntmps50
 go_wp2_with fail
 rw [HW0.out]
 go_loopw [3,8] (fun v i wr=>∃ j:Nat,j<=vs.length/\i=.int .i64 j/\Hid (KidsAt wr (w.heap.size+1) 39 v ((vs.take j).map leafT)/\Below (w.heap.size+1) W0 wr)) (fun _ i _=>vs.length - (intOf i).toNat)
 case atStart=>exact ⟨0,Nat.zero_le _,rfl,Lh ⟨KidsAt.nil _ _ _,by have:=HB.out.2.1;rw [<- this];exact Below.refl _ _⟩⟩
 case round =>
  obtain ⟨j,hj,rfl,HR⟩:=hrel
  obtain ⟨oa,ocap,hv⟩:=HR.out.1.form
  subst hv
  have hln:((vs.take j).map leafT).length=j:=by rw [List.length_map,List.length_take];omega
  rw [hln] at HR ⊢
  by_cases hlt:j<vs.length
  ·obtain ⟨hua,hub⟩:=HA.out (by omega)
   obtain ⟨hc,hv64⟩:=HC.out j hlt
   have hbw:Below w.heap.size w wr:=HB.out.1.trans (HR.out.2.mono (by omega))
   have hc1:=(hbw.cell (p:=⟨u.b,u.o+j,none⟩) hub).trans hc
   obtain ⟨F,ho,hF⟩:=HR.out.1
   obtain ⟨oa',ocap',he'⟩:=ho.form
   have hzr:=HR.out.2.size
   have hz0:=HB.out.2.1
   have HO:=Lh ho
   have HD:=Lh (leaf_at (W:=wr) (F:=F) hv64)
   have HF:=Lh hF
   have HLN:Hid ((((vs.take j).map leafT).map Tr.toD).length=j):=Lh (by rw [List.length_map,hln])
   have HTK:Hid ((vs.take (j+1)).map leafT=(vs.take j).map leafT++[leafT vs[j]]):=Lh (by rw [List.take_succ_eq_append_getElem hlt,List.map_append];rfl)
   have HZ:=Lh (aI hlt (aI hmax (aI hzr hz0)))
   rw [hua]
   clear hc hln ho hF hbw he' hub
   generalize vs[j]=vj at hc1 HD HTK hv64
   go_wp2_with (at_builtin;go_must (refine wpList_append_oneO (B:=wr.heap.size) rfl rfl _ _ 37 rfl 39 i0 _ 4 48 Tryz.underlying37 hi0 hz0' hz1' hz2' rfl (by decide) (.slice oa j ocap) (((vs.take j).map leafT).map Tr.toD) (leafT vj).toD [.int .i64 2,.int .i64 vj,.int .i64 0,.slice none 0 0] 39 rfl rfl HO.out (DsAt.oneT HD.out) (by have:=HZ.out;omega) (Tr.width _) (by rw [HLN.out];have:=HZ.out;unfold maxLen;omega) (by rw [HLN.out];have:=HZ.out;omega) ?_);intro ao cap w5 hon hb5;rw [HLN.out] at hon ⊢;have HON:=Lh (aI hon hb5);clear hon hb5)
   go_roundw
   case measure=>have:=HZ.out.1;simp [intOf];omega
   case rel=>exact ⟨j+1,by have:=HZ.out.1;omega,by go_num,Lh ⟨by rw [HTK.out];exact KidsAt.of HON.out.1 HF.out,HR.out.2.trans (HON.out.2)⟩⟩
  ·have hjl:j=vs.length:=by omega
   subst hjl
   rw [List.take_length] at HR hln
   obtain ⟨x,hx,hsl⟩:=HR.out.1.sl
   rw [hln] at hx
   simp only [SlA.val,Value.slice.injEq] at hx
   obtain ⟨rfl,-,rfl⟩:=hx
   have q3:=(HR.out.2.block w.heap.size (by omega)).trans HB.out.2.2
   have hzr:=HR.out.2.size
   have hz0:=HB.out.2.1
   have H2:=Lh (aI hsl (aI q3 (aI HR.out.2 hzr)))
   have x0:wr.cell? ⟨w.heap.size,0,none⟩=some (.int .i64 0):=cH q3 rfl
   have f0:wr.frozen? ⟨w.heap.size,0,none⟩=false:=fH q3
   have x1:wr.cell? ⟨w.heap.size,1,none⟩=some (.int .i64 0):=cH q3 rfl
   have f1:wr.frozen? ⟨w.heap.size,1,none⟩=false:=fH q3
   have x2:wr.cell? ⟨w.heap.size,2,none⟩=some (.int .i64 0):=cH q3 rfl
   have f2:wr.frozen? ⟨w.heap.size,2,none⟩=false:=fH q3
   have x3:wr.cell? ⟨w.heap.size,3,none⟩=some (.slice none 0 0):=cH q3 rfl
   have f3:wr.frozen? ⟨w.heap.size,3,none⟩=false:=fH q3
   have hl3:=(gS q3).1
   have hnl:decide ((vs.length:Int)<(vs.length:Int))=false:=by simp
   have HLV:=Lh hln
   clear hsl q3 HR hj hlt hzr hz0 hln
   go_wp2_with fail
   have hq3:=put4_heap H2.out.2.1 (.int .i64 4) (.int .i64 0) (.int .i64 0) (.slice (some ⟨wr.heap.size+1,0,none⟩) 2 2)
   have hm3:=put4_mod wr w.heap.size 0 (.int .i64 4) (.int .i64 0) (.int .i64 0) (.slice (some ⟨wr.heap.size+1,0,none⟩) 2 2)
   have hs3:(put4 wr w.heap.size 0 (.int .i64 4) (.int .i64 0) (.int .i64 0) (.slice (some ⟨wr.heap.size+1,0,none⟩) 2 2)).heap.size=wr.heap.size:=by unfold put4;simp
   unfold put4 at hq3 hm3 hs3
   simp only [Nat.zero_add] at hq3 hm3 hs3
   generalize (((wr.setCell _ _).setCell _ _).setCell _ _).setCell _ _=WP at hq3 hm3 hs3 ⊢
   have kA1:((WP.alloc (.cells #[.int .i64 6,.int .i64 0,.int .i64 2,.slice x.a vs.length x.cap] 39)).alloc (.cells #[.int .i64 6,.int .i64 0,.int .i64 1,.slice x.a vs.length x.cap,.int .i64 3,.int .i64 0,.int .i64 0,.slice (some ⟨wr.heap.size,0,none⟩) 1 1] 39)).heap[wr.heap.size]?=some (.cells #[.int .i64 6,.int .i64 0,.int .i64 2,.slice x.a vs.length x.cap] 39 (0,0)):=by rw [heap_get,if_neg (by simp;omega),heap_get,if_pos hs3.symm]
   have kA2:((WP.alloc (.cells #[.int .i64 6,.int .i64 0,.int .i64 2,.slice x.a vs.length x.cap] 39)).alloc (.cells #[.int .i64 6,.int .i64 0,.int .i64 1,.slice x.a vs.length x.cap,.int .i64 3,.int .i64 0,.int .i64 0,.slice (some ⟨wr.heap.size,0,none⟩) 1 1] 39)).heap[wr.heap.size+1]?=some (.cells #[.int .i64 6,.int .i64 0,.int .i64 1,.slice x.a vs.length x.cap,.int .i64 3,.int .i64 0,.int .i64 0,.slice (some ⟨wr.heap.size,0,none⟩) 1 1] 39 (0,0)):=by rw [heap_get,if_pos (by simp;omega)]
   have hbF:Below WP.heap.size WP ((WP.alloc (.cells #[.int .i64 6,.int .i64 0,.int .i64 2,.slice x.a vs.length x.cap] 39)).alloc (.cells #[.int .i64 6,.int .i64 0,.int .i64 1,.slice x.a vs.length x.cap,.int .i64 3,.int .i64 0,.int .i64 0,.slice (some ⟨wr.heap.size,0,none⟩) 1 1] 39)):=((Below.refl _ _).alloc (Nat.le_refl _) _).alloc (by simp) _
   generalize (WP.alloc (.cells #[.int .i64 6,.int .i64 0,.int .i64 2,.slice x.a vs.length x.cap] 39)).alloc (.cells #[.int .i64 6,.int .i64 0,.int .i64 1,.slice x.a vs.length x.cap,.int .i64 3,.int .i64 0,.int .i64 0,.slice (some ⟨wr.heap.size,0,none⟩) 1 1] 39)=WF at kA1 kA2 hbF ⊢
   have hq4:=(hbF.block _ (gS hq3).1).trans hq3
   have y0:WF.cell? ⟨w.heap.size,0,none⟩=some (.int .i64 4):=cH hq4 rfl
   have y1:WF.cell? ⟨w.heap.size,1,none⟩=some (.int .i64 0):=cH hq4 rfl
   have y2:WF.cell? ⟨w.heap.size,2,none⟩=some (.int .i64 0):=cH hq4 rfl
   have y3:WF.cell? ⟨w.heap.size,3,none⟩=some (.slice (some ⟨wr.heap.size+1,0,none⟩) 2 2):=cH hq4 rfl
   have HY:=Lh (aI hm3 (aI hs3 (aI kA1 (aI kA2 hbF))))
   clear hq3 hm3 hs3 kA1 kA2 hbF hq4 x0 x1 x2 x3 f0 f1 f2 f3
   refine bodyPost_ret (v:=.agg #[.int .i64 4,.int .i64 0,.int .i64 0,.slice (some ⟨wr.heap.size+1,0,none⟩) 2 2]) (by simp [results,Tryz.results50,go_sem,y0,y1,y2,y3]) rfl ?_
   have z1:=H2.out.2.2.2
   have z2:=HB.out.2.1
   have z4:=HY.out.2.1
   have z5:=HY.out.2.2.2.2.size
   have z6:=(gS HY.out.2.2.2.1).1
   have hlm:=HLV.out
   have h3F:∀ k,w.heap.size+1<=k->k<wr.heap.size->WF.heap[k]?=wr.heap[k]?:=fun k h1 h2=>(HY.out.2.2.2.2.block k (by omega)).trans (HY.out.1.block k h2 (by omega))
   have s1:SlIn WF (fun k=>w.heap.size<=k/\k<WF.heap.size) ((vs.map leafT).map Tr.toD) x:=(H2.out.1.agree (fun k hk=>h3F k hk.1 hk.2)).mono (fun k hk=>⟨by omega,by omega⟩)
   have d1:=Tr.close (kind:=6) (v:=0) (k:=1) (i64_small (by decide) (by decide)) (i64_small (by decide) (by decide)) (i64_small (by decide) (by decide)) s1
   have d2:=Tr.close (kind:=6) (v:=0) (k:=2) (i64_small (by decide) (by decide)) (i64_small (by decide) (by decide)) (i64_small (by decide) (by decide)) s1
   rw [hlm] at d1 d2
   have s3:SlIn WF (fun k=>w.heap.size<=k/\k<WF.heap.size) ([Tr.mk 6 0 2 (vs.map leafT)].map Tr.toD) ⟨some ⟨wr.heap.size,0,none⟩,wr.heap.size,0,1⟩:=SlIn.lit HY.out.2.2.1 (DsAt.oneT d2) ⟨by omega,by omega⟩ (by simp) (by unfold maxLen;omega)
   have d3:=Tr.close (kind:=3) (v:=0) (k:=0) (i64_small (by decide) (by decide)) (i64_small (by decide) (by decide)) (i64_small (by decide) (by decide)) s3
   have s4:SlIn WF (fun k=>w.heap.size<=k/\k<WF.heap.size) ([Tr.mk 6 0 1 (vs.map leafT),Tr.mk 3 0 0 [Tr.mk 6 0 2 (vs.map leafT)]].map Tr.toD) ⟨some ⟨wr.heap.size+1,0,none⟩,wr.heap.size+1,0,2⟩:=SlIn.lit HY.out.2.2.2.1 (by
    simp only [List.map_cons,List.map_nil]
    rw [DsAt]
    exact ⟨_,_,rfl,d1,DsAt.oneT d3⟩) ⟨by omega,by omega⟩ (by simp) (by unfold maxLen;omega)
   have d4:=Tr.close (kind:=4) (v:=0) (k:=0) (i64_small (by decide) (by decide)) (i64_small (by decide) (by decide)) (i64_small (by decide) (by decide)) s4
   have hbr:Below w.heap.size w wr:=HB.out.1.trans (H2.out.2.2.1.mono (by omega))
   exact ⟨_,_,_,_,_,_,rfl,d4,(hbr.trans (HY.out.1.below hbr.size (fun k hk=>by omega))).trans (HY.out.2.2.2.2.mono (by have:=hbr.size;omega))⟩

theorem rFrame_any (s:Schl) (x:SchA) (w:World) (hf:SchFit s) (hs:SchIn w (·<w.heap.size) s x) :
  Calls Tryz.prog 17 #[.agg (x.cells s).toArray] w (FrameP w (gFrameF s)):=by
 have hb0:Below w.heap.size w (w.alloc (.cells (x.cells s).toArray 28)):=(Below.refl _ _).alloc (Nat.le_refl _) _
 have hq0:SchBox (w.alloc (.cells (x.cells s).toArray 28)) w.heap.size s x:=by unfold SchBox;rw [heap_get,if_pos rfl]
 have HCK:=Lh (rcheck_any s x (w.alloc (.cells (x.cells s).toArray 28)) (hs.later hb0 hb0.size) hf)
 have HSM:=Lh hf.toSchSmall
 have HB:=Lh (aI hb0 hq0)
 have HR:Hid (gFrameF s=if schCheck s ≠ 0 then ([],schCheck s) else (frameF s,0)):=Lh rfl
 obtain ⟨i0,hi0,hz0',hz1',hz2'⟩:=info_parts infoTree
 obtain ⟨i1,hi1,hz0i,hz1i,hz2i⟩:=info_parts infoInt
 clear hb0 hq0 hf hs
 generalize gFrameF s=res at HR ⊢
 generalize schCheck s=sc at HCK HR
 simp only [SchA.cells,SlA.val] at HCK ⊢
 obtain ⟨a0,a1,a2,a3,a4⟩:=HB.out.2.cells
 simp only [SchA.cells,SlA.val] at a0 a1 a2 a3 a4
 go_enter Tryz.func17,Tryz.ntmps17
 go_wp2_with fail
 refine HCK.out.mono ?_
 rintro e w1 ⟨rfl,hb1⟩
 have H1:=Lh (aI (HB.out.1.trans (hb1.mono HB.out.1.size)) (HB.out.2.below hb1))
 clear hb1 a0 a1 a2 a3 a4
 by_cases h1:sc ≠ 0
 ·have d1:(sc != 0)=true:=by simpa using h1
  have HE:Hid (res=([],sc)):=Lh (by rw [HR.out,if_pos h1])
  clear h1
  go_wp2_with fail
  go_ret2
  rw [HE.out]
  exact ⟨⟨none,0,0,0⟩,rfl,SlIn.nil (Nat.zero_le _) _ _ _,H1.out.1⟩
 obtain rfl:sc=0:=by omega
 have HE:Hid (res=(frameF s,0)):=Lh (by rw [HR.out,if_neg h1])
 clear h1
 obtain ⟨_,_,_,_,a4⟩:=H1.out.2.cells
 have hlm:=HSM.out.lessons
 go_wp2_with fail
 go_loopw [5,19] (fun v i wr=>∃ j:Nat,j<=s.lessons.length/\i=.int .i64 j/\Hid (KidsAt wr w1.heap.size 39 v (frameG s j)/\Below w1.heap.size w1 wr)) (fun _ i _=>s.lessons.length - (intOf i).toNat)
 case atStart=>exact ⟨0,Nat.zero_le _,rfl,Lh ⟨KidsAt.nil _ _ _,Below.refl _ _⟩⟩
 case round =>
  clear a4
  obtain ⟨j,hj,rfl,HR2⟩:=hrel
  obtain ⟨wo,rfl⟩:∃ wo,wo=wr:=⟨wr,rfl⟩
  obtain ⟨oa,ocap,hv⟩:=HR2.out.1.form
  subst hv
  rw [frameG_len] at HR2 ⊢
  by_cases hlt:j<s.lessons.length
  ·have hqw:SchBox wo w.heap.size s x:=H1.out.2.below HR2.out.2
   obtain ⟨b0,_,_,_,_⟩:=hqw.cells
   have HQW:=Lh hqw
   have hsl:=HSM.out.slots
   clear hqw
   go_wp2_with fail
   go_loopw [7,25] (fun v k w2=>∃ m:Nat,m<=s.slots.length/\k=.int .i64 m/\Hid (OwnN w2 wo.heap.size (fun _=>False) 3 1 v (dints ((slotsV s j).take m))/\Below wo.heap.size wo w2)) (fun _ k _=>s.slots.length - (intOf k).toNat)
   case atStart=>exact ⟨0,Nat.zero_le _,rfl,Lh ⟨OwnN.nil _ _ _ _ _ (fun _ h=>h.elim),Below.refl _ _⟩⟩
   case round =>
    clear b0
    obtain ⟨m,hm,rfl,HI⟩:=hrel
    obtain ⟨w2,rfl⟩:∃ w2,w2=wr:=⟨wr,rfl⟩
    obtain ⟨ia,icap,hv⟩:=HI.out.1.form
    subst hv
    have hln:(dints ((slotsV s j).take m)).length=m:=by simp [slotsV_len];omega
    rw [hln] at HI ⊢
    by_cases hlt2:m<s.slots.length
    ·obtain ⟨c0,c1,c2,c3,c4⟩:=(HQW.out.below HI.out.2).cells
     have hv64:=wkAt_fit s j m HSM.out.lessons HSM.out.slots HSM.out.rooms
     have HTK:Hid ((slotsV s j).take (m+1)=(slotsV s j).take m++[wkAt s j m]):=Lh (by
      rw [List.take_succ_eq_append_getElem (by rw [slotsV_len];exact hlt2)]
      congr 1
      simp [slotsV])
     have HCA:=Lh (rat_any s x j m w2 HSM.out.lessons HSM.out.slots HSM.out.rooms)
     have HLN:=Lh hln
     have HV:=Lh hv64
     have HLT:=Lh (aI hlt2 (aI HSM.out.slots HI.out.2.size))
     clear hln hv64
     generalize wkAt s j m=vj at HTK HCA HV
     simp only [SchA.cells,SlA.val] at HCA c0 c1 c2 c3 c4
     go_wp2_with fail
     refine HCA.out.mono ?_
     rintro e w3 ⟨rfl,hb3⟩
     have HO:=Lh (HI.out.1.below hb3)
     have HB3:=Lh (aI hb3.size (HI.out.2.trans (hb3.mono HI.out.2.size)))
     clear hb3 c0 c1 c2 c3 c4
     go_wp2_with (at_builtin;go_must (refine wpList_append_oneO (B:=w3.heap.size) rfl rfl _ _ 90 rfl 3 i1 _ 1 8 Tryz.underlying90 hi1 hz0i hz1i hz2i rfl (by decide) (.slice ia m icap) (dints ((slotsV s j).take m)) (.int .i64 vj) [.int .i64 vj] 3 rfl rfl HO.out (DsAt.flat1 (x:=.int .i64 vj) rfl (I64.wf HV.out)) (by have:=HB3.out.1;have:=HLT.out;omega) rfl (by rw [HLN.out];have:=HLT.out;unfold maxLen;omega) (by rw [HLN.out];have:=HLT.out;omega) ?_);intro ao cap w5 hon hb5;rw [HLN.out] at hon ⊢;have HON:=Lh (aI hon hb5);clear hon hb5)
     go_roundw
     case measure=>have:=HLT.out.1;simp [intOf];omega
     case rel=>exact ⟨m+1,by have:=HLT.out.1;omega,by go_num,Lh ⟨by rw [HTK.out,dints_append];exact HON.out.1,HB3.out.2.trans HON.out.2⟩⟩
    ·have hms:m=s.slots.length:=by omega
     subst hms
     rw [show (slotsV s j).take s.slots.length=slotsV s j from List.take_of_length_le (by rw [slotsV_len];exact Nat.le_refl _)] at HI hln
     obtain ⟨u1,hu1,hs1⟩:=HI.out.1.ints
     rw [slotsV_len] at hu1
     simp only [SlA.val,Value.slice.injEq] at hu1
     obtain ⟨rfl,-,rfl⟩:=hu1
     have HS1:=Lh (aI hs1 HI.out.2)
     obtain ⟨_,b1,_,_,_⟩:=(HQW.out.below HI.out.2).cells
     have hrm:=HSM.out.rooms
     have hnl:decide ((s.slots.length:Int)<(s.slots.length:Int))=false:=by simp
     clear hs1 HI hln hm hlt2
     go_wp2_with fail
     go_loopw [8,39] (fun v k w3=>∃ m:Nat,m<=s.rooms.length/\k=.int .i64 m/\Hid (OwnN w3 w2.heap.size (fun _=>False) 3 1 v (dints ((roomsV s j).take m))/\Below w2.heap.size w2 w3)) (fun _ k _=>s.rooms.length - (intOf k).toNat)
     case atStart=>exact ⟨0,Nat.zero_le _,rfl,Lh ⟨OwnN.nil _ _ _ _ _ (fun _ h=>h.elim),Below.refl _ _⟩⟩
     case round =>
      clear b1
      obtain ⟨m,hm,rfl,HI⟩:=hrel
      obtain ⟨w3,rfl⟩:∃ w3,w3=wr:=⟨wr,rfl⟩
      obtain ⟨ia,icap,hv⟩:=HI.out.1.form
      subst hv
      have hln:(dints ((roomsV s j).take m)).length=m:=by simp [roomsV_len];omega
      rw [hln] at HI ⊢
      by_cases hlt2:m<s.rooms.length
      ·obtain ⟨c0,c1,c2,c3,c4⟩:=((HQW.out.below HS1.out.2).below HI.out.2).cells
       have hv64:=wkIn_fit s j m HSM.out.lessons HSM.out.slots HSM.out.rooms
       have HTK:Hid ((roomsV s j).take (m+1)=(roomsV s j).take m++[wkIn s j m]):=Lh (by
        rw [List.take_succ_eq_append_getElem (by rw [roomsV_len];exact hlt2)]
        congr 1
        simp [roomsV])
       have HCA:=Lh (rin_any s x j m w3 HSM.out.lessons HSM.out.slots HSM.out.rooms)
       have HLN:=Lh hln
       have HV:=Lh hv64
       have HLT:=Lh (aI hlt2 (aI HSM.out.rooms HI.out.2.size))
       clear hln hv64
       generalize wkIn s j m=vj at HTK HCA HV
       simp only [SchA.cells,SlA.val] at HCA c0 c1 c2 c3 c4
       go_wp2_with fail
       refine HCA.out.mono ?_
       rintro e w4 ⟨rfl,hb4⟩
       have HO:=Lh (HI.out.1.below hb4)
       have HB4:=Lh (aI hb4.size (HI.out.2.trans (hb4.mono HI.out.2.size)))
       clear hb4 c0 c1 c2 c3 c4
       go_wp2_with (at_builtin;go_must (refine wpList_append_oneO (B:=w4.heap.size) rfl rfl _ _ 90 rfl 3 i1 _ 1 8 Tryz.underlying90 hi1 hz0i hz1i hz2i rfl (by decide) (.slice ia m icap) (dints ((roomsV s j).take m)) (.int .i64 vj) [.int .i64 vj] 3 rfl rfl HO.out (DsAt.flat1 (x:=.int .i64 vj) rfl (I64.wf HV.out)) (by have:=HB4.out.1;have:=HLT.out;omega) rfl (by rw [HLN.out];have:=HLT.out;unfold maxLen;omega) (by rw [HLN.out];have:=HLT.out;omega) ?_);intro ao cap w5 hon hb5;rw [HLN.out] at hon ⊢;have HON:=Lh (aI hon hb5);clear hon hb5)
       go_roundw
       case measure=>have:=HLT.out.1;simp [intOf];omega
       case rel=>exact ⟨m+1,by have:=HLT.out.1;omega,by go_num,Lh ⟨by rw [HTK.out,dints_append];exact HON.out.1,HB4.out.2.trans HON.out.2⟩⟩
      ·have hms:m=s.rooms.length:=by omega
       subst hms
       rw [show (roomsV s j).take s.rooms.length=roomsV s j from List.take_of_length_le (by rw [roomsV_len];exact Nat.le_refl _)] at HI hln
       obtain ⟨u2,hu2,hs2⟩:=HI.out.1.ints
       rw [roomsV_len] at hu2
       simp only [SlA.val,Value.slice.injEq] at hu2
       obtain ⟨rfl,-,rfl⟩:=hu2
       have hb2:=HS1.out.2
       have hbs:=HI.out.2
       have HS2:=Lh (aI hs2 (hb2.trans (hbs.mono hb2.size)))
       have HO1:=Lh (fun (W:World) (hW:Below w3.heap.size w3 W)=>(by
        have h:=rone_any (slotsV s j) u1 W ((HS1.out.1.later hbs hbs.size).later hW hW.size) (by rw [slotsV_len];exact HSM.out.slots)
        rw [slotsV_len] at h;exact h:Calls Tryz.prog 50 #[.slice u1.a s.slots.length u1.cap] W (OneP W (slotsV s j))))
       have HO2:=Lh (fun (W:World) (hW:Below w3.heap.size w3 W)=>(by
        have h:=rone_any (roomsV s j) u2 W (hs2.later hW hW.size) (by rw [roomsV_len];exact HSM.out.rooms)
        rw [roomsV_len] at h;exact h:Calls Tryz.prog 50 #[.slice u2.a s.rooms.length u2.cap] W (OneP W (roomsV s j))))
       have hnl2:decide ((s.rooms.length:Int)<(s.rooms.length:Int))=false:=by simp
       have HLT:=Lh (aI hlt HSM.out.lessons)
       clear hs2 HI hln hm hlt2 hb2 hbs
       go_wp2_with fail
       refine (HO1.out w3 (Below.refl _ _)).mono ?_
       rintro e w4 ⟨k0,k1,k2,ta,tn,tcap,rfl,hd,hb4⟩
       have K4:=Lh (aI hd hb4)
       clear hd hb4
       go_wp2_with fail
       refine (HO2.out w4 K4.out.2).mono ?_
       rintro e w5 ⟨l0,l1,l2,ra,rn,rcap,rfl,hd,hb5⟩
       have K5:=Lh (aI hd (aI hb5 (HS2.out.2.trans ((K4.out.2.trans (hb5.mono K4.out.2.size)).mono HS2.out.2.size))))
       have hds:DsAt w5 (fun k=>wo.heap.size<=k/\k<w5.heap.size) [(oneT (slotsV s j)).toD,(oneT (roomsV s j)).toD] [.int .i64 k0,.int .i64 k1,.int .i64 k2,.slice ta tn tcap,.int .i64 l0,.int .i64 l1,.int .i64 l2,.slice ra rn rcap]:=by
        have z1:=HS2.out.2.size
        have z2:=K4.out.2.size
        have z3:=hb5.size
        rw [DsAt]
        exact ⟨[_,_,_,_],_,rfl,DAt.mono (fun k hk=>⟨by have:=hk.1;omega,by have:=hk.2;omega⟩) _ _ (DAt.agree (fun k hk=>hb5.block k hk.2) _ _ K4.out.1),DsAt.oneT (DAt.mono (fun k hk=>⟨by have:=hk.1;omega,hk.2⟩) _ _ hd)⟩
       obtain ⟨F,ho,hdd,hF⟩:=HR2.out.1.calls K5.out.2.2 HR2.out.2.size hds
       have HO:=Lh (aI ho (aI hdd hF))
       have HLN:Hid (((frameG s j).map Tr.toD).length=2*j):=Lh (by rw [List.length_map,frameG_len])
       have HZ:=Lh (aI K5.out.2.2.size HR2.out.2.size)
       clear ho hdd hF hds hd hb5
       go_wp2_with (at_builtin;go_must (refine wpList_append_manyO (B:=w5.heap.size) rfl rfl _ _ 37 rfl 39 i0 _ 4 48 Tryz.underlying37 hi0 hz0' hz1' hz2' rfl (by decide) (.slice oa (2*j) ocap) ((frameG s j).map Tr.toD) [(oneT (slotsV s j)).toD,(oneT (roomsV s j)).toD] 2 rfl (by decide) [.int .i64 k0,.int .i64 k1,.int .i64 k2,.slice ta tn tcap,.int .i64 l0,.int .i64 l1,.int .i64 l2,.slice ra rn rcap] 39 rfl rfl HO.out.1 HO.out.2.1 (by have:=HZ.out;omega) (by simp [widths,Tr.width]) (by rw [HLN.out];have:=HLT.out;unfold maxLen;omega) (by rw [HLN.out];have:=HLT.out;omega) ?_);intro ao cap w7 hon hb7;rw [HLN.out] at hon ⊢;have HON:=Lh (aI hon hb7);clear hon hb7)
       go_roundw
       case measure=>have:=HLT.out.1;simp [intOf];omega
       case rel=>exact ⟨j+1,by have:=HLT.out.1;omega,by go_num,Lh ⟨⟨F,by rw [frameG_succ,List.map_append];exact HON.out.1,HO.out.2.2⟩,HR2.out.2.trans ((K5.out.2.2.mono HZ.out.2).trans HON.out.2)⟩⟩
  ·have hjl:j=s.lessons.length:=by omega
   subst hjl
   obtain ⟨u,hu,hsl⟩:=HR2.out.1.sl
   rw [frameG_len] at hu
   simp only [SlA.val,Value.slice.injEq] at hu
   obtain ⟨rfl,-,rfl⟩:=hu
   have hnl:decide ((s.lessons.length:Int)<(s.lessons.length:Int))=false:=by simp
   have HSL:=Lh (aI hsl HR2.out.2)
   clear hsl HR2 hj hlt
   go_wp2_with fail
   go_ret2
   rw [HE.out]
   have hfl:(frameF s).length=2*s.lessons.length:=frameG_len s s.lessons.length
   refine ⟨u,by rw [hfl];rfl,HSL.out.1.mono (fun k hk=>⟨by have:=H1.out.1.size;omega,hk.2⟩),H1.out.1.trans (HSL.out.2.mono H1.out.1.size)⟩
end Go.Proofs.YtjjkfgjnadaheaaGreatDoor
/- GroundFrames: where the listed variables hold what their text lays, the law returns true. -/
namespace Go.Proofs.YtjjkfgjnadaheaaGreatDoor
open Go.RowKit Go.Chalk
theorem oneT_size (vs:List Int):(oneT vs).size=4+2*vs.length:=by
 have h:∀ l:List Int,sizes (l.map leafT)=l.length:=fun l=>by
  induction l with
  | nil=>rfl
  | cons v r ih=>rw [List.map_cons,sizes,ih,List.length_cons];show (leafT v).size+_=_;rw [show (leafT v).size=1 from rfl];omega
 show (Tr.mk 4 0 0 [Tr.mk 6 0 1 (vs.map leafT),Tr.mk 3 0 0 [Tr.mk 6 0 2 (vs.map leafT)]]).size=_
 simp only [Tr.size,sizes,h];omega
theorem frames_small (s:Schl):(gFrameF s).1.length<=2000000/\∀ t∈(gFrameF s).1,t.size<=2000000:=by
 unfold gFrameF
 by_cases h:schCheck s ≠ 0
 ·rw [if_pos h];simp
 ·rw [if_neg h]
  obtain ⟨h1,h2,h3⟩:=sch_small (by simpa using h)
  refine ⟨by rw [show (frameF s).length=2*s.lessons.length from frameG_len s s.lessons.length];omega,fun t ht=>?_⟩
  unfold frameF at ht
  rw [List.mem_flatMap] at ht
  obtain ⟨i,_,ht⟩:=ht
  simp only [List.mem_cons,List.not_mem_nil,or_false] at ht
  rcases ht with rfl | rfl
  ·rw [oneT_size,slotsV_len];omega
  ·rw [oneT_size,roomsV_len];omega
theorem gframes_walk (s:Schl) (x:SchA) (w:World) (hI:ItoaAt) (hf:SchFit s) (hg:GG w) (hs:SchIn w (·<w.heap.size) s x) :
  Calls Tryz.prog 4 #[.agg (x.cells s).toArray] w fun e w'=>e=.returned (.bool true)/\Below w.heap.size w w':=by
 have HLV:=Lh (fun (W:World) (hW:Below w.heap.size w W)=>live10_any W hI (hg.below hW))
 have HFW:=Lh (fun (W:World) (hW:Below w.heap.size w W)=>rfew10_any s x W (hs.later hW hW.size) hf.toSchSmall.lessons)
 have HGF:=Lh (fun (W:World) (hW:Below w.heap.size w W)=>gFrame_any s x W hI hf (hg.below hW) (hs.later hW hW.size))
 have HRF:=Lh (fun (W:World) (hW:Below w.heap.size w W)=>rFrame_any s x W hf (hs.later hW hW.size))
 have HSM:=Lh (frames_small s)
 obtain ⟨W0,hW0⟩:∃ W0,W0=w.alloc (.cells (x.cells s).toArray 28):=⟨_,rfl⟩
 have hb0:Below w.heap.size w W0:=by rw [hW0];exact (Below.refl _ _).alloc (Nat.le_refl _) _
 have hs0:SchBox W0 w.heap.size s x:=by rw [hW0];unfold SchBox;rw [heap_get,if_pos rfl]
 have HE:Hid (∀ W,Below W0.heap.size W0 W->Below w.heap.size w W/\(W.cell? ⟨w.heap.size,0,none⟩=some (.slice x.slots.a s.slots.length x.slots.cap)/\W.cell? ⟨w.heap.size,1,none⟩=some (.slice x.rooms.a s.rooms.length x.rooms.cap)/\W.cell? ⟨w.heap.size,2,none⟩=some (.slice x.people.a s.people.length x.people.cap)/\W.cell? ⟨w.heap.size,3,none⟩=some (.slice x.groups.a s.groups.length x.groups.cap)/\W.cell? ⟨w.heap.size,4,none⟩=some (.slice x.lessons.a s.lessons.length x.lessons.cap))):=Lh (fun W hW=>⟨hb0.trans (hW.mono hb0.size),(hs0.below hW).cells⟩)
 have HB0:=Lh hb0
 have HW0:=Lh hW0
 clear hb0 hs0 hW0 hI hf hg hs
 generalize gFrameF s=T at HGF HRF HSM
 obtain ⟨tl,ec⟩:=T
 unfold FrameP at HGF HRF
 simp only at HGF HRF HSM
 simp only [SchA.cells,SlA.val] at HFW HGF HRF HW0 HE ⊢
 go_enter Tryz.func4,Tryz.ntmps4
 go_wp2_with fail
 rw [<- HW0.out]
 refine (HLV.out _ HB0.out).mono ?_
 rintro e w1 ⟨rfl,hb1⟩
 have H1:=Lh hb1
 clear hb1
 obtain ⟨_,⟨c0,c1,c2,c3,c4⟩⟩:=HE.out w1 H1.out
 go_wp2_with fail
 refine (HFW.out _ (HE.out _ H1.out).1).mono ?_
 rintro e w2 ⟨⟨b2,rfl⟩,hb2⟩
 have H2:=Lh (H1.out.trans (hb2.mono H1.out.size))
 clear hb2 c0 c1 c2 c3 c4
 cases b2
 ·go_wp2_with fail
  go_ret
  exact ⟨rfl,(HE.out _ H2.out).1⟩
 obtain ⟨_,⟨c0,c1,c2,c3,c4⟩⟩:=HE.out w2 H2.out
 go_wp2_with fail
 refine (HGF.out _ (HE.out _ H2.out).1).mono ?_
 rintro e w3 ⟨u1,rfl,hs1,hb3⟩
 have H3:=Lh (aI hs1 (aI hb3 (H2.out.trans (hb3.mono H2.out.size))))
 clear hs1 hb3 c0 c1 c2 c3 c4
 obtain ⟨_,⟨c0,c1,c2,c3,c4⟩⟩:=HE.out w3 H3.out.2.2
 go_wp2_with fail
 refine (HRF.out _ (HE.out _ H3.out.2.2).1).mono ?_
 rintro e w4 ⟨u2,rfl,hs2,hb4⟩
 have H4:=Lh (H3.out.2.2.trans (hb4.mono H3.out.2.2.size))
 have HSA:=Lh (gsameall_of tl u1 u2 w4 ((H3.out.1.mono (fun _ hk=>hk.2)).later hb4 hb4.size) (hs2.mono (fun _ hk=>hk.2)) HSM.out.1 (fun j hj W cs ds hW h1 h2=>gsame_any 2000000 tl[j] cs ds W (HSM.out.2 _ (List.getElem_mem hj)) (HSM.out.2 _ (List.getElem_mem hj)) h1 h2))
 have d1:(ec==ec)=true:=by simp
 clear hs2 hb4 c0 c1 c2 c3 c4
 go_wp2_with fail
 refine HSA.out.mono ?_
 rintro e w5 ⟨rfl,hb5⟩
 have H5:=Lh (H4.out.trans (hb5.mono H4.out.size))
 clear hb5
 go_wp2_with fail
 go_ret
 exact ⟨rfl,(HE.out _ H5.out).1⟩
end Go.Proofs.YtjjkfgjnadaheaaGreatDoor
