/- Joined texts: GFrame, GLive0, GVal, GSame. -/
import Derived.Test.YtjjkfgjnadaheaaGreatDoorB46
import Derived.Test.YtjjkfgjnadaheaaGreatDoorB42
import Derived.Test.YtjjkfgjnadaheaaGreatDoorB28
import Derived.Test.YtjjkfgjnadaheaaGreatDoorB43
import Derived.Test.YtjjkfgjnadaheaaGreatDoorB45
import Derived.Test.YtjjkfgjnadaheaaGreatDoorB40
import Derived.Test.YtjjkfgjnadaheaaGreatDoorB16
set_option linter.unusedVariables false
set_option linter.unusedSimpArgs false
set_option maxHeartbeats 4000000
set_option maxRecDepth 100000

/- ground.Frame. (written by tools/gen_gframe.py) -/
namespace Go.Chalk
open Go.RowKit
variable {P:Program}
theorem KidsAt.calls {Wc W0:World} {B:Nat} {e:TypeId} {v:Value} {ts:List Tr} {ys:List D} {cs:List Value} (h:KidsAt Wc B e v ts) (hm:Below Wc.heap.size Wc W0) (hB:B<=Wc.heap.size) (ht:DsAt W0 (fun k=>Wc.heap.size<=k/\k<W0.heap.size) ys cs) :
  ∃ F,OwnN W0 B F e 4 v (ts.map Tr.toD)/\DsAt W0 F ys cs/\∀ k,F k->B<=k:=by
 obtain ⟨F,⟨r,h1,h2⟩,h3⟩:=h
 have hz:=hm.size
 refine ⟨fun k=>F k∨(Wc.heap.size<=k/\k<W0.heap.size),⟨r,(h1.below hm).widen (fun _=>.inl) (fun k hk hk'=>?_) (fun k hk=>?_),h2⟩,DsAt.mono (fun k hk=>.inr hk) _ _ ht,fun k hk=>?_⟩
 ·rcases hk' with h | h
  ·exact h1.off k hk h
  ·have:=h1.row_lt hk;omega
 ·rcases hk with h | h
  ·have:=h1.lt k h;omega
  ·exact h.2
 ·rcases hk with h | h
  ·exact h3 k h
  ·omega
theorem step_append_manyO {W0:World} {B:Nat} (hB:W0.heap.size=B) {lo:Nat} {F:Nat->Prop} {ops:Array Oper} {o:Oper} {a:Act} {K:Act->World->Prop} {Q:Exit->Act->World->Prop} {E:Prop} (hgd:o.guard=none) (s x:Operand) (t:TypeId)
  (ho:o.op=.call { callee:=.builtin .append,args:=#[s,x],argTypes:=#[t,t] }) (e:TypeId) (i:TypeInfo) (z:Value) (size bytes:Nat) (ht:P.underlying t=some (.slice e)) (hi:P.info? e=some i) (hz:i.zero=some z)
  (hsize:i.size=size) (hby:i.bytes=bytes) (hzs:z.cells.size=size) (hsz:0<size) (v:Value) (xs ys:List D) (m:Nat) (hm:ys.length=m) (hm0:0<m) (cs:List Value) (T:TypeId) (hs:a.eval s=v) (hx:a.eval x=.slice (some ⟨B,0,none⟩) m m)
  (hv:OwnN W0 lo F e size v xs) (hd:DsAt W0 F ys cs) (hlo:lo<=W0.heap.size) (hw:widths ys=m*size) (h63:xs.length+m<=maxLen) (hbytes:(xs.length+m)*bytes<=140737488355328)
  (h:∀ ao cap w',OwnN w' lo F e size (.slice ao (xs.length+m) cap) (xs++ys)->Below lo W0 w'->K (a.put o.dst (.slice ao (xs.length+m) cap)) w') :
  if Region.wanted o (yielded ops a.tmps)=true then Oper.wp P o a (W0.alloc (.cells cs.toArray T)) K Q else E:=by
 have hwn:Region.wanted o (yielded ops a.tmps)=true:=by simp [Region.wanted,hgd]
 rw [if_pos hwn]
 subst hm
 obtain ⟨r,h1,h2⟩:=hv
 have hb:Below W0.heap.size W0 (W0.alloc (.cells cs.toArray T)):=(Below.refl _ _).alloc (Nat.le_refl _) _
 have hnb:(W0.alloc (.cells cs.toArray T)).heap[W0.heap.size]?=some (.cells cs.toArray T (0,0)):=boxed (B:=W0.heap.size+1) (Below.refl _ _) (by omega)
 have hnews:∀ j u,cs[j]?=some u->(W0.alloc (.cells cs.toArray T)).cell? ((⟨W0.heap.size,0,none⟩:Addr).add j)=some u:=fun j u hu=>by
  have hc:=cH (i:=j) hnb (v:=u) (by simpa using hu)
  unfold Addr.add
  by_cases h0:j=0
  ·subst h0;simpa using hc
  ·rw [if_neg h0];simpa using hc
 have hlen:cs.length=ys.length*size:=by rw [DsAt.length _ _ hd,hw]
 have hd':DsAt (W0.alloc (.cells cs.toArray T)) F ys cs:=DsAt.agree ((agree_of_below hb).mono h1.lt) _ _ hd
 have h1':=h1.alloc (.cells cs.toArray T)
 obtain ⟨cs0,k1,k2⟩:=h1'.cells
 refine wp_append_lies (W0.alloc (.cells cs.toArray T)) s x t ho 0 e i z size bytes ht hi hz hsize hby hzs hsz v xs.length cs0 hs k1 ⟨W0.heap.size,0,none⟩ ys.length ys.length cs (by rw [hx,hB]) hlen hnews (DsAt.one _ _ hd) hm0 h63 hbytes (Nat.zero_le _) _ rfl (fun g cap w' hown hgr hat hlt=>?_)
 obtain ⟨g1,g2,g3⟩:=h1'.appended (ys:=ys) k2 hown hgr (by rcases hat with h | h;exact .inl h.symm;exact .inr (by rw [h];rfl)) hd'
 have hm0:Mod (fun k=>r=some k) W0 w':=(Mod.of_below (S:=fun k=>r=some k) hb).trans g2 (fun _ _ h=>h)
 refine h _ _ _ ⟨_,g1,fun k hk=>?_⟩ (hm0.below hlo (fun k hk=>h2 k hk))
 rcases g3 with g3 | g3
 ·rw [g3] at hk;exact h2 k hk
 ·rw [g3] at hk;simp at hk;omega
def gFrameF (s:Schl):List Tr×Int:=if schCheck s ≠ 0 then ([],schCheck s) else (frameF s,0)
def frameG (s:Schl) (j:Nat):List Tr:=(List.range j).flatMap (fun i=>[oneT (slotsV s i),oneT (roomsV s i)])
theorem frameG_succ (s:Schl) (j:Nat):frameG s (j+1)=frameG s j++[oneT (slotsV s j),oneT (roomsV s j)]:=by
 unfold frameG;rw [List.range_succ,List.flatMap_append];simp
theorem frameG_len (s:Schl) (j:Nat):(frameG s j).length=2*j:=by
 induction j with
 | zero=>rfl
 | succ j ih=>rw [frameG_succ,List.length_append,ih];simp;omega
end Go.Chalk
namespace Go.Proofs.YtjjkfgjnadaheaaGreatDoor
open Go.RowKit Go.Chalk
attribute [local go_sem] Oper.semAt_some
theorem frame1_any (s:Schl) (x:SchA) (i j:Int) (sb ib:Nat) (w:World) (hsm:SchSmall s) (hs:SchBox w sb s x) (hi:w.heap[ib]?=some (.cells #[.int .i64 i] 3 (0,0))) :
  Calls Tryz.prog 43 #[.int .i64 j,.pointer (some ⟨sb,0,none⟩),.pointer (some ⟨ib,0,none⟩)] w fun e w'=>e=.returned (.int .i64 (wkAt s i j))/\Below w.heap.size w w':=by
 have HW:=Lh (wat_any s x i j w hsm.lessons hsm.slots hsm.rooms)
 obtain ⟨c0,c1,c2,c3,c4⟩:=hs.cells
 have d0:w.cell? ⟨ib,0,none⟩=some (.int .i64 i):=cH hi rfl
 clear hs hi
 simp only [SchA.cells,SlA.val] at HW c0 c1 c2 c3 c4
 go_enter Tryz.func43,Tryz.ntmps43
 go_wp2_with fail
 refine HW.out.mono ?_
 rintro e w1 ⟨rfl,hb⟩
 go_wp2_with fail
 go_ret
 exact ⟨rfl,hb⟩
theorem slotsV_len (s:Schl) (i:Nat):(slotsV s i).length=s.slots.length:=by simp [slotsV]
theorem slotsV_get {s:Schl} {i q:Nat} {v:Int} (h:(slotsV s i)[q]?=some v):v=wkAt s i q:=by
 unfold slotsV at h
 rw [List.getElem?_map] at h
 cases hq:(List.range s.slots.length)[q]? with
 | none=>rw [hq] at h;cases h
 | some k =>
  rw [hq] at h
  obtain ⟨h1,h2⟩:=List.getElem?_eq_some_iff.1 hq
  simp at h2
  subst h2
  simpa using h.symm

theorem frame2_any (s:Schl) (x:SchA) (i j:Int) (sb ib:Nat) (w:World) (hsm:SchSmall s) (hs:SchBox w sb s x) (hi:w.heap[ib]?=some (.cells #[.int .i64 i] 3 (0,0))) :
  Calls Tryz.prog 45 #[.int .i64 j,.pointer (some ⟨sb,0,none⟩),.pointer (some ⟨ib,0,none⟩)] w fun e w'=>e=.returned (.int .i64 (wkIn s i j))/\Below w.heap.size w w':=by
 have HW:=Lh (win_any s x i j w hsm.lessons hsm.slots hsm.rooms)
 obtain ⟨c0,c1,c2,c3,c4⟩:=hs.cells
 have d0:w.cell? ⟨ib,0,none⟩=some (.int .i64 i):=cH hi rfl
 clear hs hi
 simp only [SchA.cells,SlA.val] at HW c0 c1 c2 c3 c4
 go_enter Tryz.func45,Tryz.ntmps45
 go_wp2_with fail
 refine HW.out.mono ?_
 rintro e w1 ⟨rfl,hb⟩
 go_wp2_with fail
 go_ret
 exact ⟨rfl,hb⟩
theorem roomsV_len (s:Schl) (i:Nat):(roomsV s i).length=s.rooms.length:=by simp [roomsV]
theorem roomsV_get {s:Schl} {i q:Nat} {v:Int} (h:(roomsV s i)[q]?=some v):v=wkIn s i q:=by
 unfold roomsV at h
 rw [List.getElem?_map] at h
 cases hq:(List.range s.rooms.length)[q]? with
 | none=>rw [hq] at h;cases h
 | some k =>
  rw [hq] at h
  obtain ⟨h1,h2⟩:=List.getElem?_eq_some_iff.1 hq
  simp at h2
  subst h2
  simpa using h.symm

def FrameP (w:World) (r:List Tr×Int) (e:Ending) (w':World):Prop:=∃ u:SlA,e=.returned (.tuple #[.slice u.a r.1.length u.cap,.int .i64 r.2])/\SlIn w' (fun k=>w.heap.size<=k/\k<w'.heap.size) (r.1.map Tr.toD) u/\Below w.heap.size w w'
theorem oneT_call (s:Schl) (x:SchA) (i:Nat) (sb ib:Nat) (w:World) (hsm:SchSmall s) (hs:SchBox w sb s x) (hi:w.heap[ib]?=some (.cells #[.int .i64 (i:Int)] 3 (0,0))) :
  Calls Tryz.prog 42 #[.int .i64 s.slots.length,.func (.func 43) #[] #[.pointer (some ⟨sb,0,none⟩),.pointer (some ⟨ib,0,none⟩)]] w (fun e w'=>∃ k0 k1 k2 a n cap,e=.returned (.agg #[.int .i64 k0,.int .i64 k1,.int .i64 k2,.slice a n cap])/\DAt w' (fun k=>w.heap.size<=k/\k<w'.heap.size) (oneT (slotsV s i)).toD [.int .i64 k0,.int .i64 k1,.int .i64 k2,.slice a n cap]/\Below w.heap.size w w') /\
  Calls Tryz.prog 42 #[.int .i64 s.rooms.length,.func (.func 45) #[] #[.pointer (some ⟨sb,0,none⟩),.pointer (some ⟨ib,0,none⟩)]] w (fun e w'=>∃ k0 k1 k2 a n cap,e=.returned (.agg #[.int .i64 k0,.int .i64 k1,.int .i64 k2,.slice a n cap])/\DAt w' (fun k=>w.heap.size<=k/\k<w'.heap.size) (oneT (roomsV s i)).toD [.int .i64 k0,.int .i64 k1,.int .i64 k2,.slice a n cap]/\Below w.heap.size w w'):=by
 have h1:=one_any 43 #[.pointer (some ⟨sb,0,none⟩),.pointer (some ⟨ib,0,none⟩)] (slotsV s i) w (enters_of Tryz.func43 (by kernel_rfl) rfl) (fun v hv=>by
  unfold slotsV at hv
  obtain ⟨q,_,rfl⟩:=List.mem_map.1 hv
  exact wkAt_fit s _ _ hsm.lessons hsm.slots hsm.rooms) (by rw [slotsV_len];exact hsm.slots) (fun q v W hq hW=>by
  rw [slotsV_get hq]
  exact frame1_any s x i q sb ib W hsm ((hW.block _ (gS hs).1).trans hs) ((hW.block _ (gS hi).1).trans hi))
 have h2:=one_any 45 #[.pointer (some ⟨sb,0,none⟩),.pointer (some ⟨ib,0,none⟩)] (roomsV s i) w (enters_of Tryz.func45 (by kernel_rfl) rfl) (fun v hv=>by
  unfold roomsV at hv
  obtain ⟨q,_,rfl⟩:=List.mem_map.1 hv
  exact wkIn_fit s _ _ hsm.lessons hsm.slots hsm.rooms) (by rw [roomsV_len];exact hsm.rooms) (fun q v W hq hW=>by
  rw [roomsV_get hq]
  exact frame2_any s x i q sb ib W hsm ((hW.block _ (gS hs).1).trans hs) ((hW.block _ (gS hi).1).trans hi))
 rw [slotsV_len] at h1
 rw [roomsV_len] at h2
 have key:∀ (t:Tr) (e:Ending) (w':World),(∃ cs,e=.returned (.agg cs)/\DAt w' (fun k=>w.heap.size<=k/\k<w'.heap.size) t.toD cs.toList/\Below w.heap.size w w')->∃ k0 k1 k2 a n cap,e=.returned (.agg #[.int .i64 k0,.int .i64 k1,.int .i64 k2,.slice a n cap])/\DAt w' (fun k=>w.heap.size<=k/\k<w'.heap.size) t.toD [.int .i64 k0,.int .i64 k1,.int .i64 k2,.slice a n cap]/\Below w.heap.size w w':=by
  rintro t e w' ⟨cs,rfl,hd,hb⟩
  have hl:=DAt.length _ _ hd
  rw [Tr.width] at hl
  obtain ⟨d0,d1,d2,d3,hcs⟩:=len_four hl
  rw [hcs] at hd
  obtain ⟨k0,k1,k2,a,n,cap,rfl,rfl,rfl,rfl⟩:=TreeV.shape hd
  refine ⟨k0,k1,k2,a,n,cap,?_,hd,hb⟩
  rw [<- Array.toArray_toList (xs:=cs),hcs]
 exact ⟨h1.mono (key _),h2.mono (key _)⟩
theorem gFrame_any (s:Schl) (x:SchA) (w:World) (hI:ItoaAt) (hf:SchFit s) (hg:GG w) (hs:SchIn w (·<w.heap.size) s x) :
  Calls Tryz.prog 16 #[.agg (x.cells s).toArray] w (FrameP w (gFrameF s)):=by
 have hb0:Below w.heap.size w (w.alloc (.cells (x.cells s).toArray 28)):=(Below.refl _ _).alloc (Nat.le_refl _) _
 have hq0:SchBox (w.alloc (.cells (x.cells s).toArray 28)) w.heap.size s x:=by unfold SchBox;rw [heap_get,if_pos rfl]
 have HCK:=Lh (scheck_any s x (w.alloc (.cells (x.cells s).toArray 28)) hI (hs.later hb0 hb0.size) hf (hg.below hb0))
 have HSM:=Lh hf.toSchSmall
 have HB:=Lh (aI hb0 hq0)
 have HR:Hid (gFrameF s=if schCheck s ≠ 0 then ([],schCheck s) else (frameF s,0)):=Lh rfl
 obtain ⟨i0,hi0,hz0',hz1',hz2'⟩:=info_parts infoTree
 have hmf:∀ (fn:Fn) (first cap:Array Value) (w:World),(Instr.makeFunc fn first cap).run Tryz.prog w=.ok (.func fn first cap) w:=fun _ _ _ _=>rfl
 clear hb0 hq0 hI hf hg hs
 generalize gFrameF s=res at HR ⊢
 generalize schCheck s=sc at HCK HR
 simp only [SchA.cells,SlA.val] at HCK ⊢
 obtain ⟨a0,a1,a2,a3,a4⟩:=HB.out.2.cells
 simp only [SchA.cells,SlA.val] at a0 a1 a2 a3 a4
 go_enter Tryz.func16,Tryz.ntmps16
 go_wp2_with fail
 refine HCK.out.mono ?_
 rintro e w1 ⟨rfl,hb1⟩
 have H1:=Lh (aI (HB.out.1.trans (hb1.mono HB.out.1.size)) (HB.out.2.below hb1))
 clear hb1 a0 a1 a2 a3 a4
 by_cases h1:sc ≠ 0
 ·have d1:(sc != 0)=true:=by simpa using h1
  have HE:Hid (res=([],sc)):=Lh (by rw [HR.out,if_pos h1])
  clear h1
  go_wp2_with fail
  go_ret2
  rw [HE.out]
  exact ⟨⟨none,0,0,0⟩,rfl,SlIn.nil (Nat.zero_le _) _ _ _,H1.out.1⟩
 obtain rfl:sc=0:=by omega
 have HE:Hid (res=(frameF s,0)):=Lh (by rw [HR.out,if_neg h1])
 clear h1
 obtain ⟨_,_,_,_,a4⟩:=H1.out.2.cells
 have hlm:=HSM.out.lessons
 go_wp2_with fail
 go_loopw [5,15] (fun v i wr=>∃ j:Nat,j<=s.lessons.length/\i=.int .i64 j/\Hid (KidsAt wr w1.heap.size 39 v (frameG s j)/\Below w1.heap.size w1 wr)) (fun _ i _=>s.lessons.length - (intOf i).toNat)
 case atStart=>exact ⟨0,Nat.zero_le _,rfl,Lh ⟨KidsAt.nil _ _ _,Below.refl _ _⟩⟩
 case round =>
  clear a4
  obtain ⟨j,hj,rfl,HR2⟩:=hrel
  obtain ⟨oa,ocap,hv⟩:=HR2.out.1.form
  subst hv
  rw [frameG_len] at HR2 ⊢
  by_cases hlt:j<s.lessons.length
  ·obtain ⟨WA,hWA⟩:∃ WA,WA=wr.alloc (.cells #[.int .i64 (j:Int)] 3):=⟨_,rfl⟩
   have hbA:Below wr.heap.size wr WA:=by rw [hWA];exact (Below.refl _ _).alloc (Nat.le_refl _) _
   have hzA:WA.heap.size=wr.heap.size+1:=by rw [hWA];simp
   have hkA:WA.heap[wr.heap.size]?=some (.cells #[.int .i64 (j:Int)] 3 (0,0)):=by rw [hWA,heap_get,if_pos rfl]
   have hqw:SchBox wr w.heap.size s x:=H1.out.2.below HR2.out.2
   have hqA:SchBox WA w.heap.size s x:=hqw.below hbA
   have HON:=Lh (fun (W:World) (hW:Below WA.heap.size WA W)=>oneT_call s x j w.heap.size wr.heap.size W HSM.out (hqA.below hW) ((hW.block _ (gS hkA).1).trans hkA))
   have HKS:Hid (∀ w',Below WA.heap.size WA w'->w'.cell? ⟨w.heap.size,0,none⟩=some (.slice x.slots.a s.slots.length x.slots.cap)/\w'.cell? ⟨w.heap.size,1,none⟩=some (.slice x.rooms.a s.rooms.length x.rooms.cap)):=Lh (fun w' hW=>by
    obtain ⟨g0,g1,_⟩:=(hqA.below hW).cells
    exact ⟨g0,g1⟩)
   have HA:=Lh (aI hbA (aI hzA HR2.out.2.size))
   have HWA:=Lh hWA.symm
   have hjm:j<2000000:=by omega
   clear hbA hzA hkA hqw hqA hWA
   go_wp2_with fail
   rw [HWA.out]
   refine wp_region_noPanic ?_
   refine wp_region_U 13 (S:=fun w'=>w'.cell? ⟨w.heap.size,0,none⟩=some (.slice x.slots.a s.slots.length x.slots.cap)/\w'.cell? ⟨w.heap.size,1,none⟩=some (.slice x.rooms.a s.rooms.length x.rooms.cap)) (by kernel_rfl) (HKS.out _ (Below.refl _ _).drew) (fun hHeld=>?_)
   refine tkU (i:=0) rfl hHeld ?_
   try simp only [Act.put,ub1,ub2,ub3]
   refine tkU (i:=1) rfl hHeld ?_
   try simp only [Act.put,ub1,ub2,ub3]
   refine tkU (i:=2) rfl hHeld ?_
   try simp only [Act.put,ub1,ub2,ub3]
   refine tkU (i:=3) rfl hHeld ?_
   try simp only [Act.put,ub1,ub2,ub3]
   refine tkU (i:=4) rfl hHeld ?_
   try simp only [Act.put,ub1,ub2,ub3]
   refine tkU (i:=6) rfl hHeld ?_
   try simp only [Act.put,ub1,ub2,ub3]
   refine tkU (i:=7) rfl hHeld ?_
   try simp only [Act.put,ub1,ub2,ub3]
   refine tkU (i:=8) rfl hHeld ?_
   try simp only [Act.put,ub1,ub2,ub3]
   refine tkU (i:=9) rfl hHeld ?_
   try simp only [Act.put,ub1,ub2,ub3]
   refine ready_U (rs:=[5]) (by kernel_rfl) (by simp) ?_
   refine cons_U rfl (fun K hK=>?_) nil_U
   go_simp
   go_at_call 42
   refine (HON.out WA.drew (Below.refl _ _).drew).1.mono ?_
   rintro e w2 ⟨k0,k1,k2,ta,tn,tcap,rfl,hd,hb⟩
   have K2:=Lh (aI hd (Below.trans (Below.refl WA.heap.size WA).drew (hb.mono (Nat.le_refl _))))
   clear hd hb
   go_simp
   refine hK.out _ _ ?_ (fun hHeld2=>?_)
   ·exact HKS.out _ K2.out.2
   clear hK K hHeld
   have hHeld:=hHeld2
   clear hHeld2
   try simp only [Act.put,ub1,ub2,ub3]
   refine ready_U (rs:=[10]) (by kernel_rfl) (by simp) ?_
   refine cons_U rfl (fun K hK=>?_) nil_U
   go_simp
   go_at_call 42
   refine (HON.out w2 K2.out.2).2.mono ?_
   rintro e w3 ⟨l0,l1,l2,ra,rn,rcap,rfl,hd,hb⟩
   have K3:=Lh (aI hd (aI hb (K2.out.2.trans (hb.mono K2.out.2.size))))
   clear hd hb
   go_simp
   refine hK.out _ _ ?_ (fun hHeld2=>?_)
   ·exact HKS.out _ K3.out.2.2
   clear hK K hHeld
   have hHeld:=hHeld2
   clear hHeld2
   try simp only [Act.put,ub1,ub2,ub3]
   refine ready_U (rs:=[11]) (by kernel_rfl) (by simp) ?_
   refine cons_U rfl (fun K hK=>?_) nil_U
   go_simp
   refine hK.out _ _ ?_ (fun hHeld2=>?_)
   ·exact HKS.out _ (K3.out.2.2.alloc K3.out.2.2.size _)
   clear hK K hHeld
   have hHeld:=hHeld2
   clear hHeld2
   try simp only [Act.put,ub1,ub2,ub3]
   have hds:DsAt w3 (fun k=>wr.heap.size<=k/\k<w3.heap.size) [(oneT (slotsV s j)).toD,(oneT (roomsV s j)).toD] [.int .i64 k0,.int .i64 k1,.int .i64 k2,.slice ta tn tcap,.int .i64 l0,.int .i64 l1,.int .i64 l2,.slice ra rn rcap]:=by
    rw [DsAt]
    refine ⟨[_,_,_,_],_,rfl,DAt.mono (fun k hk=>⟨by have h:=hk.1;have h2:WA.drew.heap.size=WA.heap.size:=rfl;have:=HA.out.2.1;omega,by have:=K3.out.2.1.size;have:=hk.2;omega⟩) _ _ (DAt.agree (fun k hk=>K3.out.2.1.block k hk.2) _ _ K2.out.1),DsAt.oneT (DAt.mono (fun k hk=>⟨by have:=hk.1;have:=K2.out.2.size;have:=HA.out.2.1;omega,hk.2⟩) _ _ K3.out.1)⟩
   obtain ⟨F,ho,hd,hF⟩:=HR2.out.1.calls (HA.out.1.trans (K3.out.2.2.mono HA.out.1.size)) HA.out.2.2 hds
   have HO:=Lh (aI ho (aI hd hF))
   have HLN:Hid (((frameG s j).map Tr.toD).length=2*j):=Lh (by rw [List.length_map,frameG_len])
   clear ho hd hF hds
   refine ready_U (rs:=[12]) (by kernel_rfl) (by simp) ?_
   refine cons_U rfl (fun K hK=>?_) nil_U
   refine step_append_manyO (W0:=w3) (B:=w3.heap.size) rfl (by rfl) _ _ 37 (by rfl) 39 i0 _ 4 48 Tryz.underlying37 hi0 hz0' hz1' hz2' rfl (by decide) (.slice oa (2*j) ocap) ((frameG s j).map Tr.toD) [(oneT (slotsV s j)).toD,(oneT (roomsV s j)).toD] 2 rfl (by decide) [.int .i64 k0,.int .i64 k1,.int .i64 k2,.slice ta tn tcap,.int .i64 l0,.int .i64 l1,.int .i64 l2,.slice ra rn rcap] 39 (by rfl) (by rfl) HO.out.1 HO.out.2.1 (by have:=HA.out;have:=K3.out.2.2.size;omega) (by simp [Chalk.widths,Tr.width]) (by rw [HLN.out];unfold maxLen;omega) (by rw [HLN.out];omega) ?_
   intro ao cap w5 hon hb5
   rw [HLN.out] at hon ⊢
   have HK5:=Lh (aI hon hb5)
   have h5S:w5.cell? ⟨w.heap.size,0,none⟩=some (.slice x.slots.a s.slots.length x.slots.cap)/\w5.cell? ⟨w.heap.size,1,none⟩=some (.slice x.rooms.a s.rooms.length x.rooms.cap):=by
    obtain ⟨g0,g1⟩:=HKS.out w3 K3.out.2.2
    have hl:=H1.out.2
    have hlt5:w.heap.size<w1.heap.size:=(gS hl).1
    exact ⟨(hb5.cell (p:=⟨w.heap.size,0,none⟩) hlt5).trans g0,(hb5.cell (p:=⟨w.heap.size,1,none⟩) hlt5).trans g1⟩
   clear hon hb5
   refine hK.out _ _ ?_ (fun hHeld2=>?_)
   ·exact h5S
   clear hK K hHeld
   have hHeld:=hHeld2
   clear hHeld2
   try simp only [Act.put,ub1,ub2,ub3]
   refine ready_U (rs:=[13]) (by kernel_rfl) (by simp) ?_
   refine cons_V rfl (by kernel_rfl) (fun K hK=>?_) nil_U
   go_simp
   refine hK.out _ _ ?_
   clear hK K
   try simp only [Act.put,ub1,ub2,ub3]
   refine done_U (by kernel_rfl) ?_ _
   refine NoPanic.normal ?_
   go_wp2_with fail
   go_roundw
   case measure=>simp [intOf];omega
   case rel=>exact ⟨j+1,by omega,by go_num,Lh ⟨⟨F,by rw [frameG_succ,List.map_append];exact HK5.out.1,HO.out.2.2⟩,HR2.out.2.trans ((HA.out.1.mono HA.out.2.2).trans ((K3.out.2.2.mono (by have:=HA.out;omega)).trans HK5.out.2))⟩⟩
  ·have hjl:j=s.lessons.length:=by omega
   subst hjl
   obtain ⟨u,hu,hsl⟩:=HR2.out.1.sl
   rw [frameG_len] at hu
   simp only [SlA.val,Value.slice.injEq] at hu
   obtain ⟨rfl,-,rfl⟩:=hu
   have hnl:decide ((s.lessons.length:Int)<(s.lessons.length:Int))=false:=by simp
   have HSL:=Lh (aI hsl HR2.out.2)
   clear hsl HR2 hj hlt
   go_wp2_with fail
   go_ret2
   rw [HE.out]
   have hfl:(frameF s).length=2*s.lessons.length:=frameG_len s s.lessons.length
   refine ⟨u,by rw [hfl];rfl,HSL.out.1.mono (fun k hk=>⟨by have:=H1.out.1.size;omega,hk.2⟩),H1.out.1.trans (HSL.out.2.mono H1.out.1.size)⟩
end Go.Proofs.YtjjkfgjnadaheaaGreatDoor
/- The ground chapter's example as data: what the plain law says of it. -/
namespace Go.Chalk
open Go.RowKit
def grE:List Ev:=[⟨[108],1,0⟩]
def grV:List Tr:=[.mk 2 1 0 [],.mk 2 2 0 []]
theorem gr_some:gTreeF grS grE (grA 15 0)=(.mk 5 0 0 grV,0):=by kernel_rfl
theorem gr_all:gTreeF grS grE (grA 14 0)=(.mk 4 0 0 grV,0):=by kernel_rfl
theorem gr_most:gTreeF grS grE (grA 17 1)=(.mk 3 0 0 [.mk 6 0 2 grV],0):=by kernel_rfl
theorem gr_frame:(gFrameF grS).1.length=2/\(gFrameF grS).2=0:=by decide +kernel
theorem gr_env {W:World} {F:Nat->Prop}:DsAt W F (grE.map Ev.toD) [.string ⟨#[108]⟩,.int .i64 1,.int .i64 0]:=by
 have h1:DAt W F (Ev.toD ⟨[108],1,0⟩) [.string ⟨#[108]⟩,.int .i64 1,.int .i64 0]:=by rw [Ev.toD,DAt];exact dcons (str_at [108] (by decide)) (dcons (int_at 1 (by decide)) (dcons (int_at 0 (by decide)) dnil))
 exact dcons h1 dnil
theorem gr_var {W:World} {F:Nat->Prop} (n:Int) (hn : -1000<=n/\n<=1000):DAt W F (Tr.mk 2 n 0 []).toD [.int .i64 2,.int .i64 n,.int .i64 0,.slice none 0 0] :=
 Tr.close (u:=⟨none,0,0,0⟩) (i64_small (by decide) (by decide)) (i64_small (by omega) (by omega)) (i64_small (by decide) (by decide)) (SlIn.nil (Nat.zero_le _) _ _ _)
theorem gr_vars {W:World} {F:Nat->Prop}:DsAt W F (grV.map Tr.toD) [.int .i64 2,.int .i64 1,.int .i64 0,.slice none 0 0,.int .i64 2,.int .i64 2,.int .i64 0,.slice none 0 0] :=
 dcons (gr_var 1 (by decide)) (dcons (gr_var 2 (by decide)) dnil)
end Go.Chalk
namespace Go.Proofs.YtjjkfgjnadaheaaGreatDoor
open Go.RowKit Go.Chalk
theorem grS_fit:SchFit grS:=by
 refine ⟨⟨by decide,by decide,by decide,by decide,by decide⟩,fun sort x hx=>?_,by decide,by decide,by decide,by decide⟩
 have h:∀ k:Int,∀ x∈schNames grS k,x.length<=100:=by
  intro k x hx
  unfold schNames at hx
  split at hx
  ·revert x;decide
  split at hx
  ·revert x;decide
  split at hx
  ·revert x;decide
  split at hx
  ·revert x;decide
  split at hx
  ·revert x;decide
  split at hx
  ·revert x;decide
  split at hx
  ·revert x;decide
  ·cases hx
 have:=h sort x hx;omega
theorem grA_fit:FrmFit (grA 15 0)/\FrmFit (grA 14 0)/\FrmFit (grA 17 1):=⟨⟨by decide,by unfold FrmSm;decide +kernel⟩,⟨by decide,by unfold FrmSm;decide +kernel⟩,⟨by decide,by unfold FrmSm;decide +kernel⟩⟩
end Go.Proofs.YtjjkfgjnadaheaaGreatDoor
/- The reference's Value of a ground formula; Same on equal formulas. -/
namespace Go.Chalk
open Go.RowKit
theorem Tr.parts {w:World} {F:Nat->Prop} {kind v k:Int} {l:List Tr} {cs:List Value} (h:DAt w F (Tr.mk kind v k l).toD cs):∃ u:SlA,cs=[.int .i64 kind,.int .i64 v,.int .i64 k,.slice u.a l.length u.cap]/\I64 kind/\I64 v/\I64 k/\SlIn w F (l.map Tr.toD) u:=by
 rw [Tr.toD,DAt] at h
 simp only [DsAt] at h
 obtain ⟨_,_,rfl,h1,_,_,rfl,h2,_,_,rfl,h3,_,_,rfl,h4,rfl⟩:=h
 rw [DAt] at h1;rw [DAt] at h2;rw [DAt] at h3
 obtain ⟨rfl,h1⟩:=h1
 obtain ⟨rfl,h2⟩:=h2
 obtain ⟨rfl,h3⟩:=h3
 obtain ⟨u,rfl,hs⟩:=DAt.sl_iff.1 h4
 rw [Tr.toDs_eq] at hs ⊢
 exact ⟨u,by simp [SlA.val],wf_i64 h1,wf_i64 h2,wf_i64 h3,hs⟩
theorem cntG_take (a:List Bool) (l:List Tr) (j:Nat) (h:j<l.length):cntG (l.take (j+1)) a=cntG (l.take j) a+(if valG l[j] a then 1 else 0):=by
 rw [cntG_eq,cntG_eq,List.take_succ_eq_append_getElem h,List.countP_append,List.countP_cons,List.countP_nil];omega
theorem cntG_le (a:List Bool) (l:List Tr):cntG l a<=l.length:=by rw [cntG_eq];exact List.countP_le_length
end Go.Chalk
namespace Go.Proofs.YtjjkfgjnadaheaaGreatDoor
open Go.RowKit Go.Chalk
attribute [local go_sem] Oper.semAt_some
theorem gval_any (a:List Bool) (x:SlA) (m:Nat):∀ (t:Tr) (cs:List Value) (w:World),t.size<=m->t.size<=2000000->a.length<=2000000->DAt w (·<w.heap.size) t.toD cs->SlIn w (·<w.heap.size) (dbools a) x ->
  Calls Tryz.prog 21 #[.agg cs.toArray,.slice x.a a.length x.cap] w fun e w'=>e=.returned (.bool (valG t a))/\Below w.heap.size w w':=by
 induction m with
 | zero=>intro t _ _ h;have:=size_pos t;omega
 | succ m ih =>
  rintro ⟨kind,v,k,l⟩ cs w hm hsz hal ht hx
  obtain ⟨u,rfl,hk0,hv0,hk1,hs⟩:=Tr.parts ht
  rw [Tr.size_mk] at hm hsz
  have hll:=length_le_sizes l
  have hlm:l.length<=2000000:=by omega
  obtain ⟨xa,_,xm,xb⟩:SlAt (·<w.heap.size) x.a x.b x.o a.length/\a.length<=x.cap/\x.cap<=maxLen/\∀ (i:Nat) (h:i<a.length),w.cell? ⟨x.b,x.o+i,none⟩=some (.bool a[i]):=by
   obtain ⟨_,_,_,_,he,h1,h2,h3,h4⟩:=DAt.open_bools (w:=w) (F:=(·<w.heap.size)) (xs:=a) (cs:=[x.val (dbools a).length]) (DAt.sl_iff.2 ⟨x,rfl,hx⟩)
   simp only [SlA.val,List.cons.injEq,Value.slice.injEq,and_true] at he
   have hb:0<a.length->(_:Nat)=x.b/\_=x.o:=fun h=>by
    have e1:=(h1 h).1
    have e2:=(hx.at_ (by simpa using h)).1
    rw [<- he.1,e2] at e1
    simp only [Option.some.injEq,Addr.mk.injEq,and_true] at e1
    exact ⟨e1.1.symm,e1.2.symm⟩
   refine ⟨fun h=>hx.at_ (by simpa using h),by simpa using hx.le,hx.max,fun i hi=>?_⟩
   have:=h4 i hi
   rw [(hb (by omega)).1,(hb (by omega)).2] at this
   exact this
  have HIH:=Lh (fun (j:Nat) (hj:j<l.length) (W:World) (hW:Below w.heap.size w W) (cs:List Value) (hc:DAt W (·<W.heap.size) l[j].toD cs)=>ih l[j] cs W (by have:=size_le_sizes l j hj;omega) (by have:=size_le_sizes l j hj;omega) hal hc (hx.later hW hW.size))
  have HTR:=Lh (fun (j:Nat) (hj:j<l.length)=>hs.tre j hj)
  have HSA:Hid (0<l.length->u.a=some ⟨u.b,u.o,none⟩/\u.b<w.heap.size):=Lh (fun h=>hs.at_ (by simpa using h))
  have HX:=Lh (aI xa xb)
  have HV:Hid (valG (.mk kind v k l) a=if kind=1 then v==1 else if kind=2 then bitG a v else if kind=3 then notG l a else if kind=4 then decide (cntG l a=l.length) else if kind=5 then decide (0<cntG l a) else decide (k<=(cntG l a:Int))):=Lh valG_k
  clear ih ht hx hs xa xm xb hm hsz hll hk0 hv0
  generalize valG (.mk kind v k l) a=res at HV ⊢
  obtain ⟨W0,hW0⟩:∃ W0,W0=w.alloc (.cells #[.int .i64 kind,.int .i64 v,.int .i64 k,.slice u.a l.length u.cap] 39):=⟨_,rfl⟩
  have hb0:Below w.heap.size w W0:=by rw [hW0];exact (Below.refl _ _).alloc (Nat.le_refl _) _
  have hq0:W0.heap[w.heap.size]?=some (.cells #[.int .i64 kind,.int .i64 v,.int .i64 k,.slice u.a l.length u.cap] 39 (0,0)):=by rw [hW0,heap_get,if_pos rfl]
  have c0:W0.cell? ⟨w.heap.size,0,none⟩=some (.int .i64 kind):=cH hq0 rfl
  have c1:W0.cell? ⟨w.heap.size,1,none⟩=some (.int .i64 v):=cH hq0 rfl
  have c2:W0.cell? ⟨w.heap.size,2,none⟩=some (.int .i64 k):=cH hq0 rfl
  have c3:W0.cell? ⟨w.heap.size,3,none⟩=some (.slice u.a l.length u.cap):=cH hq0 rfl
  have HB:=Lh (aI hb0 hq0)
  have HW0:=Lh hW0.symm
  clear hb0 hq0 hW0
  by_cases h1:kind=1
  ·subst h1
   have HE:Hid (res=(v==1)):=Lh (by rw [HV.out,if_pos rfl])
   clear c0 c1 c2 c3
   go_enter Tryz.func21,Tryz.ntmps21
   go_wp2_with fail
   go_ret
   exact ⟨ret_bool (by rw [HE.out]),(Below.refl _ _).alloc (Nat.le_refl _) _⟩
  by_cases h2:kind=2
  ·subst h2
   have HE:Hid (res=bitG a v):=Lh (by rw [HV.out,if_neg (by decide),if_pos rfl])
   clear c0 c1 c2 c3
   by_cases hv0:0<=v
   ·by_cases hv1:v<(a.length:Int)
    ·obtain ⟨i,rfl⟩:=Int.eq_ofNat_of_zero_le hv0
     have hi:i<a.length:=by omega
     obtain ⟨hxa,hxl⟩:=HX.out.1 (by omega)
     have hb:=HX.out.2 i hi
     have HEI:Hid (bitG a (i:Int)=a[i]):=Lh (by unfold bitG;simp [hi])
     rw [hxa]
     generalize a[i]=ai at hb HEI
     clear hxa
     go_enter Tryz.func21,Tryz.ntmps21
     go_wp2_with fail
     all_goals
      go_ret
      exact ⟨ret_bool (by rw [HE.out,HEI.out]),(Below.refl _ _).alloc (Nat.le_refl _) _⟩
    ·have d1:decide (v<(a.length:Int))=false:=by simpa using hv1
     have HEI:Hid (bitG a v=false):=Lh (by
      unfold bitG
      rw [List.getD_eq_getElem?_getD,List.getElem?_eq_none (by omega)];simp)
     clear hv1
     go_enter Tryz.func21,Tryz.ntmps21
     go_wp2_with fail
     go_ret
     exact ⟨ret_bool (by rw [HE.out,HEI.out]),(Below.refl _ _).alloc (Nat.le_refl _) _⟩
   ·have d1:decide (0<=v)=false:=by simpa using hv0
    have HEI:Hid (bitG a v=false):=Lh (by unfold bitG;simp [hv0])
    clear hv0
    go_enter Tryz.func21,Tryz.ntmps21
    go_wp2_with fail
    go_ret
    exact ⟨ret_bool (by rw [HE.out,HEI.out]),(Below.refl _ _).alloc (Nat.le_refl _) _⟩
  by_cases h3:kind=3
  ·subst h3
   have HE:Hid (res=notG l a):=Lh (by rw [HV.out,if_neg (by decide),if_neg (by decide),if_pos rfl])
   by_cases hl0:0<l.length
   ·obtain ⟨hua,hub⟩:=HSA.out hl0
    obtain ⟨k0,k1,k2,ta,tn,tcap,hc,hd⟩:=HTR.out 0 hl0
    obtain ⟨e0,e1,e2,e3⟩:=(show CellsAt w u.b u.o [.int .i64 k0,.int .i64 k1,.int .i64 k2,.slice ta tn tcap] by simpa using hc).four
    have HC:=Lh (HIH.out 0 hl0 W0 HB.out.1 _ (DAt.mono (fun q hq=>by have:=HB.out.1.size;omega) _ _ (DAt.agree (agree_of_below HB.out.1) _ _ hd)))
    have HEI:Hid (notG l a = !(valG l[0] a)):=Lh (by cases l with | nil=>simp at hl0 | cons q r=>rfl)
    have hl0':(0:Int)<(l.length:Int):=by omega
    rw [hua]
    generalize valG l[0] a=va at HC HEI
    have HU:=Lh hua
    rw [hua] at HW0
    clear hc hd c0 c1 c2 c3 hua
    go_enter Tryz.func21,Tryz.ntmps21
    go_wp2_with fail
    rw [HW0.out]
    refine HC.out.mono ?_
    rintro e w2 ⟨rfl,hb2⟩
    have H2:=Lh (HB.out.1.trans (hb2.mono HB.out.1.size))
    clear hb2 e0 e1 e2 e3
    go_wp2_with fail
    go_ret
    exact ⟨ret_bool (by rw [HE.out,HEI.out]),H2.out⟩
   ·have hl0':decide ((0:Int)<(l.length:Int))=false:=decide_eq_false (by omega)
    have HEI:Hid (notG l a=false):=Lh (by cases l with | nil=>rfl | cons q r=>simp at hl0)
    clear c0 c1 c2 c3
    go_enter Tryz.func21,Tryz.ntmps21
    go_wp2_with fail
    go_ret
    exact ⟨ret_bool (by rw [HE.out,HEI.out]),(Below.refl _ _).alloc (Nat.le_refl _) _⟩
  ·have d1:(kind==1)=false:=by simpa using h1
   have d2:(kind==2)=false:=by simpa using h2
   have d3:(kind==3)=false:=by simpa using h3
   have HE:Hid (res=if kind=4 then decide (cntG l a=l.length) else if kind=5 then decide (0<cntG l a) else decide (k<=(cntG l a:Int))):=Lh (by rw [HV.out,if_neg h1,if_neg h2,if_neg h3])
   clear h1 h2 h3 c0 c1 c2 c3
   go_enter Tryz.func21,Tryz.ntmps21
   go_wp2_with fail
   rw [HW0.out]
   go_loopw [5,52] (fun n i wr=>∃ j:Nat,j<=l.length/\i=.int .i64 j/\n=.int .i64 (cntG (l.take j) a:Nat)/\Hid (Below w.heap.size w wr/\wr.heap[w.heap.size]?=some (.cells #[.int .i64 kind,.int .i64 v,.int .i64 k,.slice u.a l.length u.cap] 39 (0,0)))) (fun _ i _=>l.length - (intOf i).toNat)
   case atStart=>exact ⟨0,Nat.zero_le _,rfl,rfl,Lh HB.out⟩
   case round =>
    obtain ⟨j,hj,rfl,rfl,HR⟩:=hrel
    have hcl:cntG (l.take j) a<=2000000:=by have:=cntG_le a (l.take j);rw [List.length_take] at this;omega
    by_cases hlt:j<l.length
    ·obtain ⟨hua,hub⟩:=HSA.out (by omega)
     obtain ⟨k0,k1,k2,ta,tn,tcap,hc,hd⟩:=HTR.out j hlt
     obtain ⟨e0,e1,e2,e3⟩:=(hc.agree (agree_of_below HR.out.1) hub).four
     have HC:=Lh (fun (W:World) (hW:Below wr.heap.size wr W)=>HIH.out j hlt W (HR.out.1.trans (hW.mono HR.out.1.size)) _ (DAt.mono (fun q (hq:q<w.heap.size)=>by have:=HR.out.1.size;have:=hW.size;omega) _ _ (DAt.agree (agree_of_below (HR.out.1.trans (hW.mono HR.out.1.size))) _ _ hd)))
     have HCT:=Lh (cntG_take a l j hlt)
     have hbl:u.b<wr.heap.size:=by have:=HR.out.1.size;omega
     rw [hua]
     have HUA:=Lh hua
     clear hua
     generalize valG l[j] a=va at HC HCT
     generalize cntG (l.take j) a=cn at HCT hcl ⊢
     clear hc hd
     go_wp2_with fail
     refine (HC.out _ ((Below.refl _ _).alloc (Nat.le_refl _) _)).mono ?_
     rintro e w2 ⟨rfl,hb2⟩
     have hbw:=((Below.refl wr.heap.size wr).alloc (Nat.le_refl _) _).trans (hb2.mono (by simp))
     have H2:=Lh (aI (HR.out.1.trans (hbw.mono HR.out.1.size)) ((hbw.block _ (gS HR.out.2).1).trans HR.out.2))
     clear hb2 hbw e0 e1 e2 e3
     cases va
     ·go_wp2_with fail
      go_roundw
      case measure=>simp [intOf];omega
      case rel=>exact ⟨j+1,by omega,by go_num,by rw [HCT.out];simp,Lh (by have h:=H2.out;rw [HUA.out] at h;exact h)⟩
     ·go_wp2_with fail
      go_roundw
      case measure=>simp [intOf];omega
      case rel=>exact ⟨j+1,by omega,by go_num,by rw [HCT.out];go_num,Lh (by have h:=H2.out;rw [HUA.out] at h;exact h)⟩
    ·have hjl:j=l.length:=by omega
     subst hjl
     rw [List.take_length] at hcl ⊢
     have e0:wr.cell? ⟨w.heap.size,0,none⟩=some (.int .i64 kind):=cH HR.out.2 rfl
     have e2:wr.cell? ⟨w.heap.size,2,none⟩=some (.int .i64 k):=cH HR.out.2 rfl
     have e3:wr.cell? ⟨w.heap.size,3,none⟩=some (.slice u.a l.length u.cap):=cH HR.out.2 rfl
     have hnl:decide ((l.length:Int)<(l.length:Int))=false:=by simp
     have H2:=Lh HR.out.1
     clear HR hlt hj
     generalize cntG l a=cn at HE hcl ⊢
     by_cases h4:kind=4
     ·have HE2:Hid (res=((cn:Int)==(l.length:Int))):=Lh (by rw [HE.out,if_pos h4,Bool.eq_iff_iff];simp only [decide_eq_true_eq,beq_iff_eq];omega)
      clear HE HV
      subst h4
      go_wp2_with fail
      go_ret
      exact ⟨ret_bool (by rw [HE2.out]),H2.out⟩
     by_cases h5:kind=5
     ·have HE2:Hid (res=decide (0<(cn:Int))):=Lh (by rw [HE.out,if_neg h4,if_pos h5,Bool.eq_iff_iff];simp only [decide_eq_true_eq];omega)
      clear HE HV
      subst h5
      go_wp2_with fail
      go_ret
      exact ⟨ret_bool (by rw [HE2.out];first | rfl | simp),H2.out⟩
     have d4:(kind==4)=false:=by simpa using h4
     have d5:(kind==5)=false:=by simpa using h5
     have HE2:=Lh (HE.out.trans (by rw [if_neg h4,if_neg h5]))
     clear h4 h5
     go_wp2_with fail
     go_ret
     exact ⟨ret_bool (by rw [HE2.out]),H2.out⟩
end Go.Proofs.YtjjkfgjnadaheaaGreatDoor
/- The reference's Same and SameAll on equal ground formulas. (written by tools/gen_gsame.py) -/
namespace Go.Proofs.YtjjkfgjnadaheaaGreatDoor
open Go.RowKit Go.Chalk
attribute [local go_sem] Oper.semAt_some
theorem gsameall_of (l:List Tr) (x y:SlA) (w:World) (hx:SlIn w (·<w.heap.size) (l.map Tr.toD) x) (hy:SlIn w (·<w.heap.size) (l.map Tr.toD) y) (hl:l.length<=2000000)
  (H:∀ (j:Nat) (hj:j<l.length) (W:World) (cs ds:List Value),Below w.heap.size w W->DAt W (·<W.heap.size) l[j].toD cs->DAt W (·<W.heap.size) l[j].toD ds->Calls Tryz.prog 14 #[.agg cs.toArray,.agg ds.toArray] W fun e W'=>e=.returned (.bool true)/\Below W.heap.size W W') :
  Calls Tryz.prog 18 #[.slice x.a l.length x.cap,.slice y.a l.length y.cap] w fun e w'=>e=.returned (.bool true)/\Below w.heap.size w w':=by
 have HH:=Lh H
 have HX:=Lh (fun (j:Nat) (hj:j<l.length)=>hx.tre j hj)
 have HY:=Lh (fun (j:Nat) (hj:j<l.length)=>hy.tre j hj)
 have HXA:Hid (0<l.length->x.a=some ⟨x.b,x.o,none⟩/\x.b<w.heap.size):=Lh (fun h=>hx.at_ (by simpa using h))
 have HYA:Hid (0<l.length->y.a=some ⟨y.b,y.o,none⟩/\y.b<w.heap.size):=Lh (fun h=>hy.at_ (by simpa using h))
 clear H hx hy
 have z1:((l.length:Int) != (l.length:Int))=false:=by simp
 go_enter Tryz.func18,Tryz.ntmps18
 go_wp2_with fail
 go_loopw [13] (fun i wr=>∃ j:Nat,j<=l.length/\i=.int .i64 j/\Hid (Below w.heap.size w wr)) (fun i _=>l.length - (intOf i).toNat)
 case atStart=>exact ⟨0,Nat.zero_le _,rfl,Lh (Below.refl _ _)⟩
 case round =>
  obtain ⟨j,hj,rfl,HR⟩:=hrel
  by_cases hlt:j<l.length
  ·obtain ⟨hxa,hxb⟩:=HXA.out (by omega)
   obtain ⟨hya,hyb⟩:=HYA.out (by omega)
   obtain ⟨k0,k1,k2,ta,tn,tcap,hc,hd⟩:=HX.out j hlt
   obtain ⟨l0,l1,l2,ra,rn,rcap,hc',hd'⟩:=HY.out j hlt
   have HKS:Hid (∀ w',Below wr.heap.size wr w'->w'.cell? ⟨x.b,x.o+j*4,none⟩=some (.int .i64 k0)/\w'.cell? ⟨x.b,x.o+j*4+1,none⟩=some (.int .i64 k1)/\w'.cell? ⟨x.b,x.o+j*4+2,none⟩=some (.int .i64 k2)/\w'.cell? ⟨x.b,x.o+j*4+3,none⟩=some (.slice ta tn tcap)/\w'.cell? ⟨y.b,y.o+j*4,none⟩=some (.int .i64 l0)/\w'.cell? ⟨y.b,y.o+j*4+1,none⟩=some (.int .i64 l1)/\w'.cell? ⟨y.b,y.o+j*4+2,none⟩=some (.int .i64 l2)/\w'.cell? ⟨y.b,y.o+j*4+3,none⟩=some (.slice ra rn rcap)):=Lh (fun w' hW=>by
    have hb:=HR.out.trans (hW.mono HR.out.size)
    obtain ⟨e0,e1,e2,e3⟩:=(hc.agree (agree_of_below hb) hxb).four
    obtain ⟨g0,g1,g2,g3⟩:=(hc'.agree (agree_of_below hb) hyb).four
    exact ⟨e0,e1,e2,e3,g0,g1,g2,g3⟩)
   have hbr:Below w.heap.size w wr.drew:=HR.out.drew
   have hmo:∀ (t:Tr) (cs:List Value),DAt w (fun q=>q<w.heap.size) t.toD cs->DAt wr.drew (fun q=>q<wr.drew.heap.size) t.toD cs:=fun t cs h=>DAt.mono (fun q (hq:q<w.heap.size)=>by have:=hbr.size;omega) _ _ (DAt.agree (agree_of_below hbr) _ _ h)
   have HC:=Lh (HH.out j hlt wr.drew _ _ hbr (hmo _ _ hd) (hmo _ _ hd'))
   have i1:(0:Int)<=(j:Int):=by omega
   have i2:(j:Int)<(l.length:Int):=by omega
   have HUA:=Lh (aI hxa hya)
   rw [hxa,hya]
   clear hc hc' hd hd' hmo hbr hxa hya hxb hyb
   go_wp2_with fail
   refine wp_region_noPanic ?_
   refine wp_region_U 99 (S:=fun w'=>w'.cell? ⟨x.b,x.o+j*4,none⟩=some (.int .i64 k0)/\w'.cell? ⟨x.b,x.o+j*4+1,none⟩=some (.int .i64 k1)/\w'.cell? ⟨x.b,x.o+j*4+2,none⟩=some (.int .i64 k2)/\w'.cell? ⟨x.b,x.o+j*4+3,none⟩=some (.slice ta tn tcap)/\w'.cell? ⟨y.b,y.o+j*4,none⟩=some (.int .i64 l0)/\w'.cell? ⟨y.b,y.o+j*4+1,none⟩=some (.int .i64 l1)/\w'.cell? ⟨y.b,y.o+j*4+2,none⟩=some (.int .i64 l2)/\w'.cell? ⟨y.b,y.o+j*4+3,none⟩=some (.slice ra rn rcap)) (by kernel_rfl) (HKS.out _ (Below.refl _ _).drew) (fun hHeld=>?_)
   refine tkU (i:=0) rfl hHeld ?_
   try simp only [Act.put,ub1,ub2,ub3]
   refine tkU (i:=1) rfl hHeld ?_
   try simp only [Act.put,ub1,ub2,ub3]
   refine tkU (i:=2) rfl hHeld ?_
   try simp only [Act.put,ub1,ub2,ub3]
   refine tkU (i:=3) rfl hHeld ?_
   try simp only [Act.put,ub1,ub2,ub3]
   refine tkU (i:=4) rfl hHeld ?_
   try simp only [Act.put,ub1,ub2,ub3]
   refine tkU (i:=5) rfl hHeld ?_
   try simp only [Act.put,ub1,ub2,ub3]
   refine tkU (i:=6) rfl hHeld ?_
   try simp only [Act.put,ub1,ub2,ub3]
   refine tkU (i:=7) rfl hHeld ?_
   try simp only [Act.put,ub1,ub2,ub3]
   refine ready_U (rs:=[8]) (by kernel_rfl) (by simp) ?_
   refine cons_U rfl (fun K hK=>?_) nil_U
   go_simp
   go_at_call 14
   refine HC.out.mono ?_
   rintro e w2 ⟨rfl,hb⟩
   have K2:=Lh (Below.trans (Below.refl wr.heap.size wr).drew (hb.mono (Nat.le_refl _)))
   clear hb
   go_simp
   refine hK.out _ _ ?_ (fun hHeld2=>?_)
   ·exact HKS.out _ K2.out
   clear hK K hHeld
   have hHeld:=hHeld2
   clear hHeld2
   try simp only [Act.put,ub1,ub2,ub3]
   refine tkU (i:=9) rfl hHeld ?_
   try simp only [Act.put,ub1,ub2,ub3]
   refine done_U (by kernel_rfl) ?_ _
   refine NoPanic.normal ?_
   go_wp2_with fail
   go_roundw
   case measure=>simp [intOf];omega
   case rel=>exact ⟨j+1,by omega,by go_num,Lh (HR.out.trans (K2.out.mono HR.out.size))⟩
  ·have hjl:j=l.length:=by omega
   subst hjl
   have hnl:decide ((l.length:Int)<(l.length:Int))=false:=by simp
   have H2:=Lh HR.out
   clear HR hlt hj
   go_wp2_with fail
   go_ret
   exact ⟨rfl,H2.out⟩
theorem gsame_any (m:Nat):∀ (t:Tr) (cs ds:List Value) (w:World),t.size<=m->t.size<=2000000->DAt w (·<w.heap.size) t.toD cs->DAt w (·<w.heap.size) t.toD ds ->
  Calls Tryz.prog 14 #[.agg cs.toArray,.agg ds.toArray] w fun e w'=>e=.returned (.bool true)/\Below w.heap.size w w':=by
 induction m with
 | zero=>intro t _ _ _ h;have:=size_pos t;omega
 | succ m ih =>
  rintro ⟨kind,v,k,l⟩ cs ds w hm hsz hc hd
  obtain ⟨x,rfl,_,_,_,hx⟩:=Tr.parts hc
  obtain ⟨y,rfl,_,_,_,hy⟩:=Tr.parts hd
  rw [Tr.size_mk] at hm hsz
  have hll:=length_le_sizes l
  obtain ⟨W0,hW0⟩:∃ W0,W0=(w.alloc (.cells #[.int .i64 kind,.int .i64 v,.int .i64 k,.slice x.a l.length x.cap] 39)).alloc (.cells #[.int .i64 kind,.int .i64 v,.int .i64 k,.slice y.a l.length y.cap] 39):=⟨_,rfl⟩
  have hb0:Below w.heap.size w W0:=by rw [hW0];exact ((Below.refl _ _).alloc (Nat.le_refl _) _).alloc (by simp) _
  have HC:=Lh (gsameall_of l x y W0 (hx.later hb0 hb0.size) (hy.later hb0 hb0.size) (by omega) (fun j hj W cs ds hb h1 h2=>ih l[j] cs ds W (by have:=size_le_sizes l j hj;omega) (by have:=size_le_sizes l j hj;omega) h1 h2))
  have HB:=Lh hb0
  have HW0:=Lh hW0.symm
  have z1:(kind==kind)=true:=by simp
  have z2:(v==v)=true:=by simp
  have z3:(k==k)=true:=by simp
  clear ih hc hd hx hy hm hsz hll hb0 hW0
  go_enter Tryz.func14,Tryz.ntmps14
  go_wp2_with fail
  rw [HW0.out]
  refine HC.out.mono ?_
  rintro e w1 ⟨rfl,hb1⟩
  have H1:=Lh (HB.out.trans (hb1.mono HB.out.size))
  clear hb1
  go_wp2_with fail
  go_ret
  exact ⟨rfl,H1.out⟩
end Go.Proofs.YtjjkfgjnadaheaaGreatDoor
