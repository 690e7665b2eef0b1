/- Joined texts: PBy, PWBr. -/
import Derived.Test.YtpmalchlecnjbaaGreatDoorB43
import Derived.Test.YtpmalchlecnjbaaGreatDoorB03
import Derived.Deep.AppendLies
import Derived.Test.YtpmalchlecnjbaaGreatDoorB08
set_option maxHeartbeats 8000000
set_option maxRecDepth 100000
set_option linter.unusedVariables false
set_option linter.unusedSimpArgs false
/- Bytes of the call's own; append of bytes. (cut out of YLawRemarks) -/
namespace Go.Chalk
open Go.RowKit Go.Proofs.YtpmalchlecnjbaaGreatDoor
def vbytes (l:Bs):List Value:=l.map (fun c=>Value.int .u8 (c.toNat:Int))
theorem wf_byte (c:UInt8):(Lit.int .u8 (c.toNat:Int)).wf=true:=by
 have h1:IntKind.u8.min=0:=rfl
 have h2:IntKind.u8.max=255:=rfl
 have:=c.toNat_lt
 simp only [Lit.wf,Bool.and_eq_true,decide_eq_true_eq]
 omega
theorem DsAt.bytes {w:World} {F:Nat->Prop}:∀ l:Bs,DsAt w F (l.map dbyte) (vbytes l)
 | []=>by rw [List.map_nil,DsAt];rfl
 | c :: r=>by
  rw [List.map_cons,DsAt]
  exact ⟨[.int .u8 (c.toNat:Int)],vbytes r,rfl,by rw [dbyte,DAt];exact ⟨rfl,wf_byte c⟩,DsAt.bytes r⟩
theorem DsAt.bytes_inv {w:World} {F:Nat->Prop}:∀ {l:Bs} {cs:List Value},DsAt w F (l.map dbyte) cs->cs=vbytes l
 | [],_,h=>by rw [List.map_nil,DsAt] at h;exact h
 | c :: r,cs,h=>by
  rw [List.map_cons,DsAt] at h
  obtain ⟨c1,c2,rfl,h1,h2⟩:=h
  rw [dbyte,DAt] at h1
  obtain ⟨rfl,_⟩:=h1
  rw [DsAt.bytes_inv (l:=r) h2];rfl
def OwnB (w:World) (e:TypeId) (v:Value) (q:Option Nat) (l:Bs):Prop:=Own w (fun _=>False) e 1 v q (l.map dbyte)
theorem OwnB.nil (w:World) (e:TypeId):OwnB w e (.slice none 0 0) none []:=Own.nil _ _ _ _ (fun _ h=>h.elim)
theorem OwnB.below {w w':World} {e:TypeId} {v:Value} {q:Option Nat} {l:Bs} (h:OwnB w e v q l) (hb:Below w.heap.size w w'):OwnB w' e v q l:=Own.below h hb
theorem OwnB.row {w:World} {e:TypeId} {v:Value} {q:Option Nat} {l:Bs} (h:OwnB w e v q l):w.ownsRow 0 e 1 v l.length (vbytes l):=by
 obtain ⟨cs,h1,h2⟩:=h.cells
 rw [DsAt.bytes_inv h2] at h1
 simpa using h1
theorem OwnB.read {w:World} {e:TypeId} {v:Value} {q:Option Nat} {l:Bs} (h:OwnB w e v q l):∃ a b cap,v=.slice a l.length cap/\SB w w.heap.size l a b 0/\l.length<=cap/\(∀ k,q=some k->k<w.heap.size):=by
 have h1:=h.row
 have h1':=h1
 obtain ⟨hlen,h2⟩:=h1
 have hq:∀ k,q=some k->k<w.heap.size:=fun k hk=>Own.row_lt h hk
 rcases h2 with ⟨rfl,h0⟩ | ⟨g,cap,cur,rfl,_,hh,hc1,hc2,hc3,hc4⟩
 ·obtain rfl:l=[]:=List.length_eq_zero_iff.1 h0
  exact ⟨none,0,0,rfl,⟨fun h=>by simp at h,fun i hi=>by simp at hi⟩,Nat.le_refl _,hq⟩
 ·refine ⟨_,g,cap,rfl,⟨fun _=>⟨rfl,(gS hh).1⟩,fun i hi=>?_⟩,hc1,hq⟩
  have:=h1'.cellAt (g:=g) (cap:=cap) i (by simpa using hi)
  simp only [Nat.zero_add]
  rw [this]
  simp [vbytes,hi]
section
variable {P:Program} (w:World)
theorem wpList_append_bytes {ops:Array Oper} {rest:List Oper} {o:Oper} {act:Act} {Q:Exit->Act->World->Prop} (hgd:Region.wanted o (yielded ops act.tmps)=true) (s x:Operand) (t:TypeId)
  (ho:o.op=.call { callee:=.builtin .append,args:=#[s,x],argTypes:=#[t,t] }) (e:TypeId) (i:TypeInfo) (z:Value) (ht:P.underlying t=some (.slice e)) (hi:P.info? e=some i) (hz:i.zero=some z)
  (hsize:i.size=1) (hby:i.bytes=1) (hzs:z.cells.size=1) (v u:Value) (r:Option Nat) (xs ys:Bs) (hs:act.eval s=v) (hx:act.eval x=u) (own:OwnB w e v r xs) (a':Option Addr) (b' o' cap':Nat) (hu:u=.slice a' ys.length cap') (src:SB w w.heap.size ys a' b' o')
  (hbytes:xs.length+ys.length<=1000000)
  (h:∀ a cap r' w',OwnB w' e (.slice a (xs.length+ys.length) cap) r' (xs++ys)->Mod (fun k=>r=some k) w w'->(r'=r∨r'=some w.heap.size)->wpList P ops Q rest (act.put o.dst (.slice a (xs.length+ys.length) cap)) w'):wpList P ops Q (o :: rest) act w :=
 wpList_step fun K hK=>by
  rw [if_pos hgd]
  obtain ⟨a,cap,hv⟩:=Own.form own
  rw [List.length_map] at hv
  by_cases hm:ys.length=0
  ·have hnil:ys=[]:=List.length_eq_zero_iff.1 hm
   subst hnil
   have hle:xs.length<=cap:=by
    rcases own.row.2 with ⟨e',hn⟩ | ⟨g',c',cur,e',_,_,hc,_⟩
    ·omega
    ·rw [hv] at e';simp at e';omega
   have hr:=run_append_none (P:=P) w t o.type e i ht hi a a' xs.length cap cap' hle
   unfold Oper.wp execOp
   rw [List.length_nil] at hu
   simp only [ho,resolve,invoke,builtin,Sem.run_bind,Sem.run_pure,Result.andThen_ok,List.map_toArray,List.map_cons,List.map_nil,hs,hx,hv,hu,hr]
   have own':=own
   rw [hv] at own'
   exact hK _ _ (h a cap r w (by rw [List.append_nil];exact own') (Mod.refl _ _) (.inl rfl))
  ·obtain ⟨rfl,hb⟩:=src.1 (by omega)
   have hc:∀ j u,(vbytes ys)[j]?=some u->w.cell? ((⟨b',o',none⟩:Addr).add j)=some u:=fun j u hj=>by
    obtain ⟨hj',rfl⟩:=List.getElem?_eq_some_iff.1 hj
    have hjl:j<ys.length:=by simpa [vbytes] using hj'
    have:=src.2 j hjl
    have e2:(vbytes ys)[j]=.int .u8 (ys[j].toNat:Int):=by simp [vbytes]
    rw [e2]
    unfold Addr.add
    by_cases h0:j=0
    ·subst h0;simpa using this
    ·rw [if_neg h0];exact this
   refine wp_append_lies w s x t ho 0 e i z 1 1 ht hi hz hsize hby hzs (by decide) v xs.length (vbytes xs) hs own.row ⟨b',o',none⟩ ys.length cap' (vbytes ys) (hx.trans hu) (by simp [vbytes]) hc (fun u hm=>by simp only [vbytes,List.mem_map] at hm;obtain ⟨_,_,rfl⟩:=hm;rfl) (by omega) (by unfold maxLen;omega) (by omega) (Nat.zero_le _) w.heap.size rfl ?_
   intro g c' w' hown hgrow hat hlt
   obtain ⟨g1,g2,g3⟩:=Own.appended (v':=.slice (some ⟨g,0,none⟩) (xs.length+ys.length) c') (ys:=ys.map dbyte) own (DsAt.bytes xs) (by simpa using hown) hgrow (by rcases hat with h | h;exact .inl h.symm;exact .inr (by rw [h];rfl)) (DsAt.bytes ys)
   refine hK _ _ (h (some ⟨g,0,none⟩) c' _ w' ?_ g2 g3)
   unfold OwnB
   rw [List.map_append]
   exact g1
end
theorem OwnB.lit {w:World} {e:TypeId} (l:Bs) (n:Nat) (cs:Array Value) (hn:l.length=n) (hcs:(vbytes l).toArray=cs) (hmx:n<=1000000):OwnB (w.alloc (.cells cs e)) e (.slice (some ⟨w.heap.size,0,none⟩) n n) (some w.heap.size) l:=by
 subst hcs
 have:=Own.lit (w:=w) (F:=fun _=>False) (e:=e) (sz:=1) (n:=n) (cs:=vbytes l) (xs:=l.map dbyte) (by simpa using hn) (by unfold maxLen;omega) (by simp [vbytes,hn]) (DsAt.bytes l) (fun _ h=>h.elim)
 exact this
theorem SB.lit {w:World} {e:TypeId} (l:Bs) (cs:Array Value) (hcs:(vbytes l).toArray=cs):SB (w.alloc (.cells cs e)) (w.alloc (.cells cs e)).heap.size l (some ⟨w.heap.size,0,none⟩) w.heap.size 0:=by
 subst hcs
 refine ⟨fun _=>⟨rfl,by simp⟩,fun i hi=>?_⟩
 rw [Nat.zero_add]
 exact cH (heap_alloc_new _ _) (by simp [vbytes,hi])
end Go.Chalk
namespace Go.Proofs.YtpmalchlecnjbaaGreatDoor
open Go.RowKit Go.Chalk
theorem byte_info:(Tryz.prog.info? 5).map (fun i=>(i.zero,i.size,i.bytes))=some (some (.int .u8 0),1,1):=by kernel_rfl
end Go.Proofs.YtpmalchlecnjbaaGreatDoor
/- SyntaxBrackets, walked. (written by tools/gen_wbr.py) -/
namespace Go.Chalk
open Go.RowKit
theorem wpList_app {P:Program} {ops:Array Oper} {Q:Exit->Act->World->Prop} {a:Act} {w:World} {rest:List Oper} {d:Option Nat} {xs:Array Operand} {ts:Array TypeId} {tt:TypeId} {pos:String} {aft:Array Edge} {gd:Option (Nat×Bool)}
  (h:Hold (wpList P ops Q (⟨d,.call ⟨.builtin .append,xs,ts⟩,tt,pos,aft,gd⟩ :: rest) a w)):wpList P ops Q (⟨d,.call ⟨.builtin .append,xs,ts⟩,tt,pos,aft,gd⟩ :: rest) a w:=h
theorem synForm_lexat {b:Bs} (hb:b.length<=16384) {n:Nat} (h:synForm b=(none,n,50)):n<=16384:=by
 rw [synForm_eq,tokensF_small hb] at h
 by_cases h0:¬ (lexS b 0 []).2.2=0
 ·rw [if_pos h0] at h
  rcases goF_shape (b.length+1) b 0 [] (by omega) with ⟨h1,_⟩ | ⟨_,_,h2,h3⟩
  ·exact absurd h1 h0
  ·have:(lexS b 0 []).2.1=n:=by simpa using congrArg (fun q=>q.2.1) h
   have h3':(lexS b 0 []).2.1<0+b.length:=h3
   omega
 ·rw [if_neg h0] at h
  split at h
  ·simp at h
  ·split at h
   ·simp at h
   ·split at h
    ·have:=congrArg (fun q=>q.2.2) h
     exact absurd this (frmCheck_50 _)
    ·simp at h
end Go.Chalk
namespace Go.Proofs.YtpmalchlecnjbaaGreatDoor
open Go.RowKit Go.Chalk
attribute [local go_sem] Oper.semAt_some
theorem synForm_fit {b:Bs} {f:Frm} {n:Nat} {c:Int} (h:synForm b=(some f,n,c)):FrmFit f:=by
 rw [synForm_eq] at h
 split at h
 ·simp at h
 ·rename_i h0
  split at h
  ·simp at h
  ·rename_i f' l hR
   split at h
   ·simp at h
   ·split at h
    ·simp at h
    ·have h0:(tokensF b).2.2=0:=by simpa using h0
     obtain rfl:f'=f:=by simpa using congrArg (fun q=>q.1) h
     exact parF_fit hR (toks_short h0) (toks_ok h0).2.2.1
theorem br_walk (bs:Bs) (a:Option Addr) (b o cap:Nat) (w:World) (hg:GS w) (hsb:SB w w.heap.size bs a b o) (hcap:bs.length<=cap):Calls Tryz.prog 10 #[.slice a bs.length cap] w fun e w'=>e=.returned (.bool true)/\Below w.heap.size w w':=by
 have HFM:=Lh (fun (bs:Bs) (a:Option Addr) (b o cap:Nat) (W:World) (hW:Below w.heap.size w W) (h1:SB W W.heap.size bs a b o) (h2:bs.length<=cap)=>sform_any bs a b o cap W h1 h2 (hg.below hW))
 have HLV:=Lh (fun (W:World) (hW:Below w.heap.size w W)=>live_any W (hg.below hW))
 have HSB:=Lh hsb
 obtain ⟨i0,hi,hz0,hz1,hz2⟩:=info_parts byte_info
 clear hsb hg
 by_cases hbig:1500<bs.length
 ·have hbig':decide ((1500:Int)<(bs.length:Int))=true:=by simp;omega
  clear hbig
  go_enter Tryz.func10,Tryz.ntmps10
  go_wp2_with fail
  refine (HLV.out w (Below.refl _ _)).mono ?_
  rintro e w1 ⟨rfl,hb⟩
  have D1:=Lh hb
  clear hb
  go_wp2_with fail
  go_ret
  exact ⟨rfl,D1.out⟩
 have hbig':decide ((1500:Int)<(bs.length:Int))=false:=by simp;omega
 have hbl:bs.length<=1500:=by omega
 have hlaw:=brackets_law bs (by omega)
 clear hbig
 go_enter Tryz.func10,Tryz.ntmps10
 go_wp2_with fail
 refine (HLV.out w (Below.refl _ _)).mono ?_
 rintro e w2 ⟨rfl,hb⟩
 have D2:=Lh hb
 have HF2:=Lh (HFM.out bs a b o cap w2 hb (HSB.out.below hb hb.size) hcap)
 clear hb
 go_wp2_with fail
 refine HF2.out.mono ?_
 rintro e w3 ⟨hb,hr⟩
 have D3:=Lh (D2.out.trans (hb.mono D2.out.size))
 rcases hr with ⟨f,x,hs,rfl,hx⟩ | ⟨n,c,hs,rfl⟩
 ·have hft:FrmFit f:=synForm_fit hs
  rcases hlaw with hl | ⟨h1,_⟩
  rotate_left
  ·rw [hs] at h1;exact absurd rfl h1
  have HL:=Lh hl
  have HS:=Lh hs
  have HFT:=Lh hft
  have HX3:=Lh (hx.mono (fun k hk=>hk.2))
  clear hb hs hft hl hx HF2
  obtain ⟨B3,hB3⟩:∃ B3,B3=w3.heap.size:=⟨_,rfl⟩
  obtain ⟨w4,hw4⟩:∃ w4,w4=w3.alloc (.cells #[.int .i64 f.kind,.string ⟨f.name.toArray⟩,.int .i64 f.n,.slice x.t.a f.terms.length x.t.cap,.slice x.b.a f.binds.length x.b.cap,.slice x.l.a f.l.length x.l.cap] 28):=⟨_,rfl⟩
  have hb:Below w3.heap.size w3 w4:=by rw [hw4];exact below_new _ _
  have hx:w4.heap[B3]?=some (.cells #[.int .i64 f.kind,.string ⟨f.name.toArray⟩,.int .i64 f.n,.slice x.t.a f.terms.length x.t.cap,.slice x.b.a f.binds.length x.b.cap,.slice x.l.a f.l.length x.l.cap] 28 (0,0)):=by rw [hw4,hB3];exact heap_alloc_new _ _
  have KB3:=Lh hx
  have HBB3:=Lh hB3
  have HW4:=Lh hw4
  have HX:=Lh (HX3.out.later hb hb.size)
  have D4:=Lh (D3.out.trans (hb.mono D3.out.size))
  have E4:=Lh (Below.refl w4.heap.size w4)
  clear hb hx hw4 hB3
  go_wp2_with (first | (with_reducible refine wpList_row ?_) | (with_reducible refine wpList_app ?_))
  rw [<- HW4.out,<- HBB3.out]
  unfold Hold
  refine wpList_step fun K hK=>?_
  rw [if_pos (by kernel_rfl)]
  go_simp
  refine hK _ _ ?_
  clear hK K
  try simp only [Act.put,List.setIfInBounds_toArray,List.set_cons_zero,List.set_cons_succ]
  have ho:=OwnB.lit (w:=w4) (e:=5) [40] 1 #[.int .u8 40] rfl rfl (by decide)
  have hs:=SB.lit (w:=w4) (e:=5) [40] #[.int .u8 40] rfl
  have hb:Below w4.heap.size w4 (w4.alloc (.cells #[.int .u8 40] 5)):=below_new _ _
  obtain ⟨R1,hR1⟩:∃ R1,R1=w4.heap.size:=⟨_,rfl⟩
  rw [<- hR1] at ho hs ⊢
  generalize w4.alloc (.cells #[.int .u8 40] 5)=w5 at hb ho hs ⊢
  have HR1:=Lh hR1
  clear hR1
  have M5:=Lh hb
  have O5:=Lh ho
  have S5:=Lh (HSB.out.below (D4.out.trans (M5.out.mono D4.out.size)) (D4.out.trans (M5.out.mono D4.out.size)).size)
  clear hb ho hs
  go_wp2_with (first | (with_reducible refine wpList_row ?_) | (with_reducible refine wpList_app ?_))
  unfold Hold
  refine wpList_append_bytes _ (by rfl) _ _ 22 rfl 5 i0 _ Tryz.underlying22 hi hz0 hz1 hz2 rfl (.slice (some ⟨R1,0,none⟩) 1 1) (.slice a bs.length cap) (some R1) ([40]) (bs) rfl rfl O5.out (a) (b) (o) (cap) rfl S5.out (by simp only [List.length_append,List.length_cons,List.length_nil];omega) ?_
  intro ca ccap cq w6 hown hmod hat
  have M6:Hid (Below w4.heap.size w4 w6):=Lh (M5.out.trans (hmod.below M5.out.size (fun k hk=>by cases hk;exact Nat.le_of_eq HR1.out.symm)))
  have hq6:∀ k,cq=some k->w4.heap.size<=k:=fun k hk=>by rcases hat with h | h <;> rw [h] at hk <;> cases hk;exact Nat.le_of_eq HR1.out.symm;exact M5.out.size
  have O6:=Lh (aI hown hq6)
  clear hown hmod hat hq6
  go_wp2_with (first | (with_reducible refine wpList_row ?_) | (with_reducible refine wpList_app ?_))
  unfold Hold
  refine wpList_step fun K hK=>?_
  rw [if_pos (by kernel_rfl)]
  go_simp
  refine hK _ _ ?_
  clear hK K
  try simp only [Act.put,List.setIfInBounds_toArray,List.set_cons_zero,List.set_cons_succ]
  have ho:=OwnB.lit (w:=w6) (e:=5) [10,41] 2 #[.int .u8 10,.int .u8 41] rfl rfl (by decide)
  have hs:=SB.lit (w:=w6) (e:=5) [10,41] #[.int .u8 10,.int .u8 41] rfl
  have hb:Below w6.heap.size w6 (w6.alloc (.cells #[.int .u8 10,.int .u8 41] 5)):=below_new _ _
  obtain ⟨R2,hR2⟩:∃ R2,R2=w6.heap.size:=⟨_,rfl⟩
  rw [<- hR2] at ho hs ⊢
  generalize w6.alloc (.cells #[.int .u8 10,.int .u8 41] 5)=w7 at hb ho hs ⊢
  have HR2:=Lh hR2
  clear hR2
  have M7:=Lh (M6.out.trans (hb.mono M6.out.size))
  have O7:=Lh (O6.out.1.below hb)
  have S7:=Lh hs
  clear hb ho hs
  go_wp2_with (first | (with_reducible refine wpList_row ?_) | (with_reducible refine wpList_app ?_))
  unfold Hold
  refine wpList_append_bytes _ (by rfl) _ _ 22 rfl 5 i0 _ Tryz.underlying22 hi hz0 hz1 hz2 rfl (.slice ca ([40].length+bs.length) ccap) (.slice (some ⟨R2,0,none⟩) 2 2) (cq) ([40]++bs) ([10,41]) rfl rfl O7.out (some ⟨R2,0,none⟩) (R2) (0) (2) rfl S7.out (by simp only [List.length_append,List.length_cons,List.length_nil];omega) ?_
  intro da dcap dq w8 hown hmod hat
  have M8:Hid (Below w4.heap.size w4 w8):=Lh (M7.out.trans (hmod.below M7.out.size (fun k hk=>O6.out.2 k hk)))
  have D8:=Lh (D4.out.trans (M8.out.mono D4.out.size))
  have E8:=Lh (M8.out)
  obtain ⟨da',db,dcap',hv,hsb8,hcp8,_⟩:=hown.read
  rw [hv]
  rw [show [40]++bs++[10,41]=40 :: (bs++[10,41]) from by simp] at hsb8 hcp8 ⊢
  have HF8:=Lh (HFM.out (40 :: (bs++[10,41])) da' db 0 dcap' w8 D8.out hsb8 hcp8)
  obtain ⟨nn,hnn⟩:∃ nn,nn=(40 :: (bs++[10,41])).length:=⟨_,rfl⟩
  rw [<- hnn] at HF8 ⊢
  clear hown hmod hat hv hsb8 hcp8 hnn
  go_wp2_with fail
  refine HF8.out.mono ?_
  rintro e w9 ⟨hb,hr⟩
  have D9:=Lh (D8.out.trans (hb.mono D8.out.size))
  have E9:=Lh (E8.out.trans (hb.mono E8.out.size))
  have HB9:=Lh hb
  clear hb HF8
  rcases hr with ⟨g,y,hs,rfl,hy⟩ | ⟨n',c',hs,_⟩
  rotate_left
  ·rw [HL.out.2.2.1,HS.out] at hs;simp at hs
  rw [HL.out.2.2.1,HS.out] at hs
  obtain rfl:f=g:=by simpa using hs
  obtain ⟨B9,hB9⟩:∃ B9,B9=w9.heap.size:=⟨_,rfl⟩
  obtain ⟨w10,hw10⟩:∃ w10,w10=w9.alloc (.cells #[.int .i64 f.kind,.string ⟨f.name.toArray⟩,.int .i64 f.n,.slice y.t.a f.terms.length y.t.cap,.slice y.b.a f.binds.length y.b.cap,.slice y.l.a f.l.length y.l.cap] 28):=⟨_,rfl⟩
  have hb:Below w9.heap.size w9 w10:=by rw [hw10];exact below_new _ _
  have hx:w10.heap[B9]?=some (.cells #[.int .i64 f.kind,.string ⟨f.name.toArray⟩,.int .i64 f.n,.slice y.t.a f.terms.length y.t.cap,.slice y.b.a f.binds.length y.b.cap,.slice y.l.a f.l.length y.l.cap] 28 (0,0)):=by rw [hw10,hB9];exact heap_alloc_new _ _
  have KB9:=Lh hx
  have HBB9:=Lh hB9
  have HW10:=Lh hw10
  have D10:=Lh (D9.out.trans (hb.mono D9.out.size))
  have E10:=Lh (E9.out.trans (hb.mono E9.out.size))
  have HY:=Lh ((hy.mono (fun k hk=>hk.2)).later hb hb.size)
  clear hb hs hy hw10 hB9
  have k3:=(E10.out.block B3 (gS KB3.out).1).trans KB3.out
  have p0:w10.cell? ⟨B3,0,none⟩=some (.int .i64 f.kind):=cH k3 rfl
  have p1:w10.cell? ⟨B3,1,none⟩=some (.string ⟨f.name.toArray⟩):=cH k3 rfl
  have p2:w10.cell? ⟨B3,2,none⟩=some (.int .i64 f.n):=cH k3 rfl
  have p3:w10.cell? ⟨B3,3,none⟩=some (.slice x.t.a f.terms.length x.t.cap):=cH k3 rfl
  have p4:w10.cell? ⟨B3,4,none⟩=some (.slice x.b.a f.binds.length x.b.cap):=cH k3 rfl
  have p5:w10.cell? ⟨B3,5,none⟩=some (.slice x.l.a f.l.length x.l.cap):=cH k3 rfl
  have q0:w10.cell? ⟨B9,0,none⟩=some (.int .i64 f.kind):=cH hx rfl
  have q1:w10.cell? ⟨B9,1,none⟩=some (.string ⟨f.name.toArray⟩):=cH hx rfl
  have q2:w10.cell? ⟨B9,2,none⟩=some (.int .i64 f.n):=cH hx rfl
  have q3:w10.cell? ⟨B9,3,none⟩=some (.slice y.t.a f.terms.length y.t.cap):=cH hx rfl
  have q4:w10.cell? ⟨B9,4,none⟩=some (.slice y.b.a f.binds.length y.b.cap):=cH hx rfl
  have q5:w10.cell? ⟨B9,5,none⟩=some (.slice y.l.a f.l.length y.l.cap):=cH hx rfl
  have p3':∀ j,(w9.alloc (.cells #[.int .i64 f.kind,.string ⟨f.name.toArray⟩,.int .i64 f.n,.slice y.t.a f.terms.length y.t.cap,.slice y.b.a f.binds.length y.b.cap,.slice y.l.a f.l.length y.l.cap] 28)).cell? ⟨B3,j,none⟩=w10.cell? ⟨B3,j,none⟩:=fun j=>by rw [HW10.out]
  have HSM:=Lh (fsame_any _ f f w10 (Nat.le_refl _) HFT.out x y (HX.out.later E10.out E10.out.size) HY.out)
  rw [frmEq_self] at HSM
  simp only [FrmA.cells,SlA.val] at HSM
  clear k3 hx p3'
  have k9:w9.heap[B3]?=some (.cells #[.int .i64 f.kind,.string ⟨f.name.toArray⟩,.int .i64 f.n,.slice x.t.a f.terms.length x.t.cap,.slice x.b.a f.binds.length x.b.cap,.slice x.l.a f.l.length x.l.cap] 28 (0,0)):=(E9.out.block B3 (gS KB3.out).1).trans KB3.out
  have hl9:=(gS k9).1
  have r0:w9.cell? ⟨B3,0,none⟩=some (.int .i64 f.kind):=cH k9 rfl
  have r1:w9.cell? ⟨B3,1,none⟩=some (.string ⟨f.name.toArray⟩):=cH k9 rfl
  have r2:w9.cell? ⟨B3,2,none⟩=some (.int .i64 f.n):=cH k9 rfl
  have r3:w9.cell? ⟨B3,3,none⟩=some (.slice x.t.a f.terms.length x.t.cap):=cH k9 rfl
  have r4:w9.cell? ⟨B3,4,none⟩=some (.slice x.b.a f.binds.length x.b.cap):=cH k9 rfl
  have r5:w9.cell? ⟨B3,5,none⟩=some (.slice x.l.a f.l.length x.l.cap):=cH k9 rfl
  clear k9
  go_wp2_with fail
  rw [<- HW10.out,<- HBB9.out]
  refine HSM.out.mono ?_
  rintro e w11 ⟨rfl,hb⟩
  have D11:=Lh (D10.out.trans (hb.mono D10.out.size))
  clear hb
  go_wp2_with fail
  go_ret
  exact ⟨rfl,D11.out⟩
 ·rcases hlaw with ⟨_,_,_,h4⟩ | hl
  ·rw [hs] at h4;exact absurd rfl h4
  rw [hs] at hl
  simp only at hl
  have HL:=Lh hl
  have HNB:=Lh (fun (h:c=50)=>synForm_lexat (b:=bs) (by omega) (n:=n) (by rw [hs,h]))
  clear hb hs hl HF2
  obtain ⟨B3,hB3⟩:∃ B3,B3=w3.heap.size:=⟨_,rfl⟩
  obtain ⟨w4,hw4⟩:∃ w4,w4=w3.alloc (.cells #[.int .i64 0,.string ⟨#[]⟩,.int .i64 0,.slice none 0 0,.slice none 0 0,.slice none 0 0] 28):=⟨_,rfl⟩
  have hb:Below w3.heap.size w3 w4:=by rw [hw4];exact below_new _ _
  have hx:w4.heap[B3]?=some (.cells #[.int .i64 0,.string ⟨#[]⟩,.int .i64 0,.slice none 0 0,.slice none 0 0,.slice none 0 0] 28 (0,0)):=by rw [hw4,hB3];exact heap_alloc_new _ _
  have KB3:=Lh hx
  have HBB3:=Lh hB3
  have HW4:=Lh hw4
  have D4:=Lh (D3.out.trans (hb.mono D3.out.size))
  have E4:=Lh (Below.refl w4.heap.size w4)
  clear hb hx hw4 hB3
  go_wp2_with (first | (with_reducible refine wpList_row ?_) | (with_reducible refine wpList_app ?_))
  rw [<- HW4.out,<- HBB3.out]
  unfold Hold
  refine wpList_step fun K hK=>?_
  rw [if_pos (by kernel_rfl)]
  go_simp
  refine hK _ _ ?_
  clear hK K
  try simp only [Act.put,List.setIfInBounds_toArray,List.set_cons_zero,List.set_cons_succ]
  have ho:=OwnB.lit (w:=w4) (e:=5) [40] 1 #[.int .u8 40] rfl rfl (by decide)
  have hs:=SB.lit (w:=w4) (e:=5) [40] #[.int .u8 40] rfl
  have hb:Below w4.heap.size w4 (w4.alloc (.cells #[.int .u8 40] 5)):=below_new _ _
  obtain ⟨R1,hR1⟩:∃ R1,R1=w4.heap.size:=⟨_,rfl⟩
  rw [<- hR1] at ho hs ⊢
  generalize w4.alloc (.cells #[.int .u8 40] 5)=w5 at hb ho hs ⊢
  have HR1:=Lh hR1
  clear hR1
  have M5:=Lh hb
  have O5:=Lh ho
  have S5:=Lh (HSB.out.below (D4.out.trans (M5.out.mono D4.out.size)) (D4.out.trans (M5.out.mono D4.out.size)).size)
  clear hb ho hs
  go_wp2_with (first | (with_reducible refine wpList_row ?_) | (with_reducible refine wpList_app ?_))
  unfold Hold
  refine wpList_append_bytes _ (by rfl) _ _ 22 rfl 5 i0 _ Tryz.underlying22 hi hz0 hz1 hz2 rfl (.slice (some ⟨R1,0,none⟩) 1 1) (.slice a bs.length cap) (some R1) ([40]) (bs) rfl rfl O5.out (a) (b) (o) (cap) rfl S5.out (by simp only [List.length_append,List.length_cons,List.length_nil];omega) ?_
  intro ca ccap cq w6 hown hmod hat
  have M6:Hid (Below w4.heap.size w4 w6):=Lh (M5.out.trans (hmod.below M5.out.size (fun k hk=>by cases hk;exact Nat.le_of_eq HR1.out.symm)))
  have hq6:∀ k,cq=some k->w4.heap.size<=k:=fun k hk=>by rcases hat with h | h <;> rw [h] at hk <;> cases hk;exact Nat.le_of_eq HR1.out.symm;exact M5.out.size
  have O6:=Lh (aI hown hq6)
  clear hown hmod hat hq6
  go_wp2_with (first | (with_reducible refine wpList_row ?_) | (with_reducible refine wpList_app ?_))
  unfold Hold
  refine wpList_step fun K hK=>?_
  rw [if_pos (by kernel_rfl)]
  go_simp
  refine hK _ _ ?_
  clear hK K
  try simp only [Act.put,List.setIfInBounds_toArray,List.set_cons_zero,List.set_cons_succ]
  have ho:=OwnB.lit (w:=w6) (e:=5) [10,41] 2 #[.int .u8 10,.int .u8 41] rfl rfl (by decide)
  have hs:=SB.lit (w:=w6) (e:=5) [10,41] #[.int .u8 10,.int .u8 41] rfl
  have hb:Below w6.heap.size w6 (w6.alloc (.cells #[.int .u8 10,.int .u8 41] 5)):=below_new _ _
  obtain ⟨R2,hR2⟩:∃ R2,R2=w6.heap.size:=⟨_,rfl⟩
  rw [<- hR2] at ho hs ⊢
  generalize w6.alloc (.cells #[.int .u8 10,.int .u8 41] 5)=w7 at hb ho hs ⊢
  have HR2:=Lh hR2
  clear hR2
  have M7:=Lh (M6.out.trans (hb.mono M6.out.size))
  have O7:=Lh (O6.out.1.below hb)
  have S7:=Lh hs
  clear hb ho hs
  go_wp2_with (first | (with_reducible refine wpList_row ?_) | (with_reducible refine wpList_app ?_))
  unfold Hold
  refine wpList_append_bytes _ (by rfl) _ _ 22 rfl 5 i0 _ Tryz.underlying22 hi hz0 hz1 hz2 rfl (.slice ca ([40].length+bs.length) ccap) (.slice (some ⟨R2,0,none⟩) 2 2) (cq) ([40]++bs) ([10,41]) rfl rfl O7.out (some ⟨R2,0,none⟩) (R2) (0) (2) rfl S7.out (by simp only [List.length_append,List.length_cons,List.length_nil];omega) ?_
  intro da dcap dq w8 hown hmod hat
  have M8:Hid (Below w4.heap.size w4 w8):=Lh (M7.out.trans (hmod.below M7.out.size (fun k hk=>O6.out.2 k hk)))
  have D8:=Lh (D4.out.trans (M8.out.mono D4.out.size))
  have E8:=Lh (M8.out)
  obtain ⟨da',db,dcap',hv,hsb8,hcp8,_⟩:=hown.read
  rw [hv]
  rw [show [40]++bs++[10,41]=40 :: (bs++[10,41]) from by simp] at hsb8 hcp8 ⊢
  have HF8:=Lh (HFM.out (40 :: (bs++[10,41])) da' db 0 dcap' w8 D8.out hsb8 hcp8)
  obtain ⟨nn,hnn⟩:∃ nn,nn=(40 :: (bs++[10,41])).length:=⟨_,rfl⟩
  rw [<- hnn] at HF8 ⊢
  clear hown hmod hat hv hsb8 hcp8 hnn
  go_wp2_with fail
  refine HF8.out.mono ?_
  rintro e w9 ⟨hb,hr⟩
  have D9:=Lh (D8.out.trans (hb.mono D8.out.size))
  have E9:=Lh (E8.out.trans (hb.mono E8.out.size))
  have HB9:=Lh hb
  clear hb HF8
  have D10:∀ o:Obj,Below w.heap.size w (w9.alloc o):=fun o=>D9.out.trans ((below_new w9 o).mono D9.out.size)
  have HD10:=Lh D10
  clear D10
  have hc0:(c==0)=false:=by simpa using HL.out.1
  rcases HL.out.2 with h50 | ⟨h2,h3⟩
  ·have hc5:(c==50)=false:=by simpa using h50
   have h50:¬ c=50:=by simpa using h50
   rcases hr with ⟨g,y,hs,rfl,hy⟩ | ⟨n',c',hs,rfl⟩
   ·go_wp2_with fail
    go_ret
    exact ⟨rfl,HD10.out _⟩
   ·go_wp2_with fail
    go_ret
    exact ⟨rfl,HD10.out _⟩
  by_cases h50:c=50
  rotate_left
  ·have hc5:(c==50)=false:=by simpa using h50
   clear h2 h3
   rcases hr with ⟨g,y,hs,rfl,hy⟩ | ⟨n',c',hs,rfl⟩
   ·go_wp2_with fail
    go_ret
    exact ⟨rfl,HD10.out _⟩
   ·go_wp2_with fail
    go_ret
    exact ⟨rfl,HD10.out _⟩
  subst h50
  clear hc0
  rcases hr with ⟨g,y,hs,_,_⟩ | ⟨n',c',hs,rfl⟩
  ·rw [hs] at h2;simp at h2
  rw [hs] at h2 h3
  simp only at h2 h3
  subst h2 h3
  have hnb:=HNB.out rfl
  have hwr:IntKind.i64.wrap ((n:Int)+1)=(n:Int)+1:=IntWalk.i64_in _ (by omega)
  have hwr2:wrap64 ((n:Int)+1)=(n:Int)+1:=IntWalk.wrap64_in _ (by omega)
  have hcast:((n+1:Nat):Int)=(n:Int)+1:=by omega
  rw [hcast]
  clear hs hcast
  go_wp2_with fail
  go_ret
  exact ⟨rfl,HD10.out _⟩
end Go.Proofs.YtpmalchlecnjbaaGreatDoor
