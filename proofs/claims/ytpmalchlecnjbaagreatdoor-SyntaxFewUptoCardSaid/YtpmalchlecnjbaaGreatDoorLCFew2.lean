/- Joined texts: PBy, PWBr, PPlA, PFwA, PWFew. -/
import Derived.Test.YtpmalchlecnjbaaGreatDoorB43
import Derived.Test.YtpmalchlecnjbaaGreatDoorB03
import Derived.Deep.AppendLies
import Derived.Test.YtpmalchlecnjbaaGreatDoorB08
import Derived.Test.YtpmalchlecnjbaaGreatDoorLCFew1
import Derived.Test.YtpmalchlecnjbaaGreatDoorB28
set_option maxHeartbeats 16000000
set_option maxRecDepth 100000
set_option linter.unusedVariables false
set_option linter.unusedSimpArgs false
/- Bytes of the call's own; append of bytes. (cut out of YLawRemarks) -/
namespace Go.Chalk
open Go.RowKit Go.Proofs.YtpmalchlecnjbaaGreatDoor
def vbytes (l:Bs):List Value:=l.map (fun c=>Value.int .u8 (c.toNat:Int))
theorem wf_byte (c:UInt8):(Lit.int .u8 (c.toNat:Int)).wf=true:=by
 have h1:IntKind.u8.min=0:=rfl
 have h2:IntKind.u8.max=255:=rfl
 have:=c.toNat_lt
 simp only [Lit.wf,Bool.and_eq_true,decide_eq_true_eq]
 omega
theorem DsAt.bytes {w:World} {F:Nat->Prop}:∀ l:Bs,DsAt w F (l.map dbyte) (vbytes l)
 | []=>by rw [List.map_nil,DsAt];rfl
 | c :: r=>by
  rw [List.map_cons,DsAt]
  exact ⟨[.int .u8 (c.toNat:Int)],vbytes r,rfl,by rw [dbyte,DAt];exact ⟨rfl,wf_byte c⟩,DsAt.bytes r⟩
theorem DsAt.bytes_inv {w:World} {F:Nat->Prop}:∀ {l:Bs} {cs:List Value},DsAt w F (l.map dbyte) cs->cs=vbytes l
 | [],_,h=>by rw [List.map_nil,DsAt] at h;exact h
 | c :: r,cs,h=>by
  rw [List.map_cons,DsAt] at h
  obtain ⟨c1,c2,rfl,h1,h2⟩:=h
  rw [dbyte,DAt] at h1
  obtain ⟨rfl,_⟩:=h1
  rw [DsAt.bytes_inv (l:=r) h2];rfl
def OwnB (w:World) (e:TypeId) (v:Value) (q:Option Nat) (l:Bs):Prop:=Own w (fun _=>False) e 1 v q (l.map dbyte)
theorem OwnB.nil (w:World) (e:TypeId):OwnB w e (.slice none 0 0) none []:=Own.nil _ _ _ _ (fun _ h=>h.elim)
theorem OwnB.below {w w':World} {e:TypeId} {v:Value} {q:Option Nat} {l:Bs} (h:OwnB w e v q l) (hb:Below w.heap.size w w'):OwnB w' e v q l:=Own.below h hb
theorem OwnB.row {w:World} {e:TypeId} {v:Value} {q:Option Nat} {l:Bs} (h:OwnB w e v q l):w.ownsRow 0 e 1 v l.length (vbytes l):=by
 obtain ⟨cs,h1,h2⟩:=h.cells
 rw [DsAt.bytes_inv h2] at h1
 simpa using h1
theorem OwnB.read {w:World} {e:TypeId} {v:Value} {q:Option Nat} {l:Bs} (h:OwnB w e v q l):∃ a b cap,v=.slice a l.length cap/\SB w w.heap.size l a b 0/\l.length<=cap/\(∀ k,q=some k->k<w.heap.size):=by
 have h1:=h.row
 have h1':=h1
 obtain ⟨hlen,h2⟩:=h1
 have hq:∀ k,q=some k->k<w.heap.size:=fun k hk=>Own.row_lt h hk
 rcases h2 with ⟨rfl,h0⟩ | ⟨g,cap,cur,rfl,_,hh,hc1,hc2,hc3,hc4⟩
 ·obtain rfl:l=[]:=List.length_eq_zero_iff.1 h0
  exact ⟨none,0,0,rfl,⟨fun h=>by simp at h,fun i hi=>by simp at hi⟩,Nat.le_refl _,hq⟩
 ·refine ⟨_,g,cap,rfl,⟨fun _=>⟨rfl,(gS hh).1⟩,fun i hi=>?_⟩,hc1,hq⟩
  have:=h1'.cellAt (g:=g) (cap:=cap) i (by simpa using hi)
  simp only [Nat.zero_add]
  rw [this]
  simp [vbytes,hi]
section
variable {P:Program} (w:World)
theorem wpList_append_bytes {ops:Array Oper} {rest:List Oper} {o:Oper} {act:Act} {Q:Exit->Act->World->Prop} (hgd:Region.wanted o (yielded ops act.tmps)=true) (s x:Operand) (t:TypeId)
  (ho:o.op=.call { callee:=.builtin .append,args:=#[s,x],argTypes:=#[t,t] }) (e:TypeId) (i:TypeInfo) (z:Value) (ht:P.underlying t=some (.slice e)) (hi:P.info? e=some i) (hz:i.zero=some z)
  (hsize:i.size=1) (hby:i.bytes=1) (hzs:z.cells.size=1) (v u:Value) (r:Option Nat) (xs ys:Bs) (hs:act.eval s=v) (hx:act.eval x=u) (own:OwnB w e v r xs) (a':Option Addr) (b' o' cap':Nat) (hu:u=.slice a' ys.length cap') (src:SB w w.heap.size ys a' b' o')
  (hbytes:xs.length+ys.length<=1000000)
  (h:∀ a cap r' w',OwnB w' e (.slice a (xs.length+ys.length) cap) r' (xs++ys)->Mod (fun k=>r=some k) w w'->(r'=r∨r'=some w.heap.size)->wpList P ops Q rest (act.put o.dst (.slice a (xs.length+ys.length) cap)) w'):wpList P ops Q (o :: rest) act w :=
 wpList_step fun K hK=>by
  rw [if_pos hgd]
  obtain ⟨a,cap,hv⟩:=Own.form own
  rw [List.length_map] at hv
  by_cases hm:ys.length=0
  ·have hnil:ys=[]:=List.length_eq_zero_iff.1 hm
   subst hnil
   have hle:xs.length<=cap:=by
    rcases own.row.2 with ⟨e',hn⟩ | ⟨g',c',cur,e',_,_,hc,_⟩
    ·omega
    ·rw [hv] at e';simp at e';omega
   have hr:=run_append_none (P:=P) w t o.type e i ht hi a a' xs.length cap cap' hle
   unfold Oper.wp execOp
   rw [List.length_nil] at hu
   simp only [ho,resolve,invoke,builtin,Sem.run_bind,Sem.run_pure,Result.andThen_ok,List.map_toArray,List.map_cons,List.map_nil,hs,hx,hv,hu,hr]
   have own':=own
   rw [hv] at own'
   exact hK _ _ (h a cap r w (by rw [List.append_nil];exact own') (Mod.refl _ _) (.inl rfl))
  ·obtain ⟨rfl,hb⟩:=src.1 (by omega)
   have hc:∀ j u,(vbytes ys)[j]?=some u->w.cell? ((⟨b',o',none⟩:Addr).add j)=some u:=fun j u hj=>by
    obtain ⟨hj',rfl⟩:=List.getElem?_eq_some_iff.1 hj
    have hjl:j<ys.length:=by simpa [vbytes] using hj'
    have:=src.2 j hjl
    have e2:(vbytes ys)[j]=.int .u8 (ys[j].toNat:Int):=by simp [vbytes]
    rw [e2]
    unfold Addr.add
    by_cases h0:j=0
    ·subst h0;simpa using this
    ·rw [if_neg h0];exact this
   refine wp_append_lies w s x t ho 0 e i z 1 1 ht hi hz hsize hby hzs (by decide) v xs.length (vbytes xs) hs own.row ⟨b',o',none⟩ ys.length cap' (vbytes ys) (hx.trans hu) (by simp [vbytes]) hc (fun u hm=>by simp only [vbytes,List.mem_map] at hm;obtain ⟨_,_,rfl⟩:=hm;rfl) (by omega) (by unfold maxLen;omega) (by omega) (Nat.zero_le _) w.heap.size rfl ?_
   intro g c' w' hown hgrow hat hlt
   obtain ⟨g1,g2,g3⟩:=Own.appended (v':=.slice (some ⟨g,0,none⟩) (xs.length+ys.length) c') (ys:=ys.map dbyte) own (DsAt.bytes xs) (by simpa using hown) hgrow (by rcases hat with h | h;exact .inl h.symm;exact .inr (by rw [h];rfl)) (DsAt.bytes ys)
   refine hK _ _ (h (some ⟨g,0,none⟩) c' _ w' ?_ g2 g3)
   unfold OwnB
   rw [List.map_append]
   exact g1
end
theorem OwnB.lit {w:World} {e:TypeId} (l:Bs) (n:Nat) (cs:Array Value) (hn:l.length=n) (hcs:(vbytes l).toArray=cs) (hmx:n<=1000000):OwnB (w.alloc (.cells cs e)) e (.slice (some ⟨w.heap.size,0,none⟩) n n) (some w.heap.size) l:=by
 subst hcs
 have:=Own.lit (w:=w) (F:=fun _=>False) (e:=e) (sz:=1) (n:=n) (cs:=vbytes l) (xs:=l.map dbyte) (by simpa using hn) (by unfold maxLen;omega) (by simp [vbytes,hn]) (DsAt.bytes l) (fun _ h=>h.elim)
 exact this
theorem SB.lit {w:World} {e:TypeId} (l:Bs) (cs:Array Value) (hcs:(vbytes l).toArray=cs):SB (w.alloc (.cells cs e)) (w.alloc (.cells cs e)).heap.size l (some ⟨w.heap.size,0,none⟩) w.heap.size 0:=by
 subst hcs
 refine ⟨fun _=>⟨rfl,by simp⟩,fun i hi=>?_⟩
 rw [Nat.zero_add]
 exact cH (heap_alloc_new _ _) (by simp [vbytes,hi])
end Go.Chalk
namespace Go.Proofs.YtpmalchlecnjbaaGreatDoor
open Go.RowKit Go.Chalk
theorem byte_info:(Tryz.prog.info? 5).map (fun i=>(i.zero,i.size,i.bytes))=some (some (.int .u8 0),1,1):=by kernel_rfl
end Go.Proofs.YtpmalchlecnjbaaGreatDoor
/- SyntaxBrackets, walked. (written by tools/gen_wbr.py) -/
namespace Go.Chalk
open Go.RowKit
theorem wpList_app {P:Program} {ops:Array Oper} {Q:Exit->Act->World->Prop} {a:Act} {w:World} {rest:List Oper} {d:Option Nat} {xs:Array Operand} {ts:Array TypeId} {tt:TypeId} {pos:String} {aft:Array Edge} {gd:Option (Nat×Bool)}
  (h:Hold (wpList P ops Q (⟨d,.call ⟨.builtin .append,xs,ts⟩,tt,pos,aft,gd⟩ :: rest) a w)):wpList P ops Q (⟨d,.call ⟨.builtin .append,xs,ts⟩,tt,pos,aft,gd⟩ :: rest) a w:=h
theorem synForm_lexat {b:Bs} (hb:b.length<=16384) {n:Nat} (h:synForm b=(none,n,50)):n<=16384:=by
 rw [synForm_eq,tokensF_small hb] at h
 by_cases h0:¬ (lexS b 0 []).2.2=0
 ·rw [if_pos h0] at h
  rcases goF_shape (b.length+1) b 0 [] (by omega) with ⟨h1,_⟩ | ⟨_,_,h2,h3⟩
  ·exact absurd h1 h0
  ·have:(lexS b 0 []).2.1=n:=by simpa using congrArg (fun q=>q.2.1) h
   have h3':(lexS b 0 []).2.1<0+b.length:=h3
   omega
 ·rw [if_neg h0] at h
  split at h
  ·simp at h
  ·split at h
   ·simp at h
   ·split at h
    ·have:=congrArg (fun q=>q.2.2) h
     exact absurd this (frmCheck_50 _)
    ·simp at h
end Go.Chalk
namespace Go.Proofs.YtpmalchlecnjbaaGreatDoor
open Go.RowKit Go.Chalk
attribute [local go_sem] Oper.semAt_some
theorem synForm_fit {b:Bs} {f:Frm} {n:Nat} {c:Int} (h:synForm b=(some f,n,c)):FrmFit f:=by
 rw [synForm_eq] at h
 split at h
 ·simp at h
 ·rename_i h0
  split at h
  ·simp at h
  ·rename_i f' l hR
   split at h
   ·simp at h
   ·split at h
    ·simp at h
    ·have h0:(tokensF b).2.2=0:=by simpa using h0
     obtain rfl:f'=f:=by simpa using congrArg (fun q=>q.1) h
     exact parF_fit hR (toks_short h0) (toks_ok h0).2.2.1
theorem br_walk (bs:Bs) (a:Option Addr) (b o cap:Nat) (w:World) (hg:GS w) (hsb:SB w w.heap.size bs a b o) (hcap:bs.length<=cap):Calls Tryz.prog 10 #[.slice a bs.length cap] w fun e w'=>e=.returned (.bool true)/\Below w.heap.size w w':=by
 have HFM:=Lh (fun (bs:Bs) (a:Option Addr) (b o cap:Nat) (W:World) (hW:Below w.heap.size w W) (h1:SB W W.heap.size bs a b o) (h2:bs.length<=cap)=>sform_any bs a b o cap W h1 h2 (hg.below hW))
 have HLV:=Lh (fun (W:World) (hW:Below w.heap.size w W)=>live_any W (hg.below hW))
 have HSB:=Lh hsb
 obtain ⟨i0,hi,hz0,hz1,hz2⟩:=info_parts byte_info
 clear hsb hg
 by_cases hbig:1500<bs.length
 ·have hbig':decide ((1500:Int)<(bs.length:Int))=true:=by simp;omega
  clear hbig
  go_enter Tryz.func10,Tryz.ntmps10
  go_wp2_with fail
  refine (HLV.out w (Below.refl _ _)).mono ?_
  rintro e w1 ⟨rfl,hb⟩
  have D1:=Lh hb
  clear hb
  go_wp2_with fail
  go_ret
  exact ⟨rfl,D1.out⟩
 have hbig':decide ((1500:Int)<(bs.length:Int))=false:=by simp;omega
 have hbl:bs.length<=1500:=by omega
 have hlaw:=brackets_law bs (by omega)
 clear hbig
 go_enter Tryz.func10,Tryz.ntmps10
 go_wp2_with fail
 refine (HLV.out w (Below.refl _ _)).mono ?_
 rintro e w2 ⟨rfl,hb⟩
 have D2:=Lh hb
 have HF2:=Lh (HFM.out bs a b o cap w2 hb (HSB.out.below hb hb.size) hcap)
 clear hb
 go_wp2_with fail
 refine HF2.out.mono ?_
 rintro e w3 ⟨hb,hr⟩
 have D3:=Lh (D2.out.trans (hb.mono D2.out.size))
 rcases hr with ⟨f,x,hs,rfl,hx⟩ | ⟨n,c,hs,rfl⟩
 ·have hft:FrmFit f:=synForm_fit hs
  rcases hlaw with hl | ⟨h1,_⟩
  rotate_left
  ·rw [hs] at h1;exact absurd rfl h1
  have HL:=Lh hl
  have HS:=Lh hs
  have HFT:=Lh hft
  have HX3:=Lh (hx.mono (fun k hk=>hk.2))
  clear hb hs hft hl hx HF2
  obtain ⟨B3,hB3⟩:∃ B3,B3=w3.heap.size:=⟨_,rfl⟩
  obtain ⟨w4,hw4⟩:∃ w4,w4=w3.alloc (.cells #[.int .i64 f.kind,.string ⟨f.name.toArray⟩,.int .i64 f.n,.slice x.t.a f.terms.length x.t.cap,.slice x.b.a f.binds.length x.b.cap,.slice x.l.a f.l.length x.l.cap] 28):=⟨_,rfl⟩
  have hb:Below w3.heap.size w3 w4:=by rw [hw4];exact below_new _ _
  have hx:w4.heap[B3]?=some (.cells #[.int .i64 f.kind,.string ⟨f.name.toArray⟩,.int .i64 f.n,.slice x.t.a f.terms.length x.t.cap,.slice x.b.a f.binds.length x.b.cap,.slice x.l.a f.l.length x.l.cap] 28 (0,0)):=by rw [hw4,hB3];exact heap_alloc_new _ _
  have KB3:=Lh hx
  have HBB3:=Lh hB3
  have HW4:=Lh hw4
  have HX:=Lh (HX3.out.later hb hb.size)
  have D4:=Lh (D3.out.trans (hb.mono D3.out.size))
  have E4:=Lh (Below.refl w4.heap.size w4)
  clear hb hx hw4 hB3
  go_wp2_with (first | (with_reducible refine wpList_row ?_) | (with_reducible refine wpList_app ?_))
  rw [<- HW4.out,<- HBB3.out]
  unfold Hold
  refine wpList_step fun K hK=>?_
  rw [if_pos (by kernel_rfl)]
  go_simp
  refine hK _ _ ?_
  clear hK K
  try simp only [Act.put,List.setIfInBounds_toArray,List.set_cons_zero,List.set_cons_succ]
  have ho:=OwnB.lit (w:=w4) (e:=5) [40] 1 #[.int .u8 40] rfl rfl (by decide)
  have hs:=SB.lit (w:=w4) (e:=5) [40] #[.int .u8 40] rfl
  have hb:Below w4.heap.size w4 (w4.alloc (.cells #[.int .u8 40] 5)):=below_new _ _
  obtain ⟨R1,hR1⟩:∃ R1,R1=w4.heap.size:=⟨_,rfl⟩
  rw [<- hR1] at ho hs ⊢
  generalize w4.alloc (.cells #[.int .u8 40] 5)=w5 at hb ho hs ⊢
  have HR1:=Lh hR1
  clear hR1
  have M5:=Lh hb
  have O5:=Lh ho
  have S5:=Lh (HSB.out.below (D4.out.trans (M5.out.mono D4.out.size)) (D4.out.trans (M5.out.mono D4.out.size)).size)
  clear hb ho hs
  go_wp2_with (first | (with_reducible refine wpList_row ?_) | (with_reducible refine wpList_app ?_))
  unfold Hold
  refine wpList_append_bytes _ (by rfl) _ _ 22 rfl 5 i0 _ Tryz.underlying22 hi hz0 hz1 hz2 rfl (.slice (some ⟨R1,0,none⟩) 1 1) (.slice a bs.length cap) (some R1) ([40]) (bs) rfl rfl O5.out (a) (b) (o) (cap) rfl S5.out (by simp only [List.length_append,List.length_cons,List.length_nil];omega) ?_
  intro ca ccap cq w6 hown hmod hat
  have M6:Hid (Below w4.heap.size w4 w6):=Lh (M5.out.trans (hmod.below M5.out.size (fun k hk=>by cases hk;exact Nat.le_of_eq HR1.out.symm)))
  have hq6:∀ k,cq=some k->w4.heap.size<=k:=fun k hk=>by rcases hat with h | h <;> rw [h] at hk <;> cases hk;exact Nat.le_of_eq HR1.out.symm;exact M5.out.size
  have O6:=Lh (aI hown hq6)
  clear hown hmod hat hq6
  go_wp2_with (first | (with_reducible refine wpList_row ?_) | (with_reducible refine wpList_app ?_))
  unfold Hold
  refine wpList_step fun K hK=>?_
  rw [if_pos (by kernel_rfl)]
  go_simp
  refine hK _ _ ?_
  clear hK K
  try simp only [Act.put,List.setIfInBounds_toArray,List.set_cons_zero,List.set_cons_succ]
  have ho:=OwnB.lit (w:=w6) (e:=5) [10,41] 2 #[.int .u8 10,.int .u8 41] rfl rfl (by decide)
  have hs:=SB.lit (w:=w6) (e:=5) [10,41] #[.int .u8 10,.int .u8 41] rfl
  have hb:Below w6.heap.size w6 (w6.alloc (.cells #[.int .u8 10,.int .u8 41] 5)):=below_new _ _
  obtain ⟨R2,hR2⟩:∃ R2,R2=w6.heap.size:=⟨_,rfl⟩
  rw [<- hR2] at ho hs ⊢
  generalize w6.alloc (.cells #[.int .u8 10,.int .u8 41] 5)=w7 at hb ho hs ⊢
  have HR2:=Lh hR2
  clear hR2
  have M7:=Lh (M6.out.trans (hb.mono M6.out.size))
  have O7:=Lh (O6.out.1.below hb)
  have S7:=Lh hs
  clear hb ho hs
  go_wp2_with (first | (with_reducible refine wpList_row ?_) | (with_reducible refine wpList_app ?_))
  unfold Hold
  refine wpList_append_bytes _ (by rfl) _ _ 22 rfl 5 i0 _ Tryz.underlying22 hi hz0 hz1 hz2 rfl (.slice ca ([40].length+bs.length) ccap) (.slice (some ⟨R2,0,none⟩) 2 2) (cq) ([40]++bs) ([10,41]) rfl rfl O7.out (some ⟨R2,0,none⟩) (R2) (0) (2) rfl S7.out (by simp only [List.length_append,List.length_cons,List.length_nil];omega) ?_
  intro da dcap dq w8 hown hmod hat
  have M8:Hid (Below w4.heap.size w4 w8):=Lh (M7.out.trans (hmod.below M7.out.size (fun k hk=>O6.out.2 k hk)))
  have D8:=Lh (D4.out.trans (M8.out.mono D4.out.size))
  have E8:=Lh (M8.out)
  obtain ⟨da',db,dcap',hv,hsb8,hcp8,_⟩:=hown.read
  rw [hv]
  rw [show [40]++bs++[10,41]=40 :: (bs++[10,41]) from by simp] at hsb8 hcp8 ⊢
  have HF8:=Lh (HFM.out (40 :: (bs++[10,41])) da' db 0 dcap' w8 D8.out hsb8 hcp8)
  obtain ⟨nn,hnn⟩:∃ nn,nn=(40 :: (bs++[10,41])).length:=⟨_,rfl⟩
  rw [<- hnn] at HF8 ⊢
  clear hown hmod hat hv hsb8 hcp8 hnn
  go_wp2_with fail
  refine HF8.out.mono ?_
  rintro e w9 ⟨hb,hr⟩
  have D9:=Lh (D8.out.trans (hb.mono D8.out.size))
  have E9:=Lh (E8.out.trans (hb.mono E8.out.size))
  have HB9:=Lh hb
  clear hb HF8
  rcases hr with ⟨g,y,hs,rfl,hy⟩ | ⟨n',c',hs,_⟩
  rotate_left
  ·rw [HL.out.2.2.1,HS.out] at hs;simp at hs
  rw [HL.out.2.2.1,HS.out] at hs
  obtain rfl:f=g:=by simpa using hs
  obtain ⟨B9,hB9⟩:∃ B9,B9=w9.heap.size:=⟨_,rfl⟩
  obtain ⟨w10,hw10⟩:∃ w10,w10=w9.alloc (.cells #[.int .i64 f.kind,.string ⟨f.name.toArray⟩,.int .i64 f.n,.slice y.t.a f.terms.length y.t.cap,.slice y.b.a f.binds.length y.b.cap,.slice y.l.a f.l.length y.l.cap] 28):=⟨_,rfl⟩
  have hb:Below w9.heap.size w9 w10:=by rw [hw10];exact below_new _ _
  have hx:w10.heap[B9]?=some (.cells #[.int .i64 f.kind,.string ⟨f.name.toArray⟩,.int .i64 f.n,.slice y.t.a f.terms.length y.t.cap,.slice y.b.a f.binds.length y.b.cap,.slice y.l.a f.l.length y.l.cap] 28 (0,0)):=by rw [hw10,hB9];exact heap_alloc_new _ _
  have KB9:=Lh hx
  have HBB9:=Lh hB9
  have HW10:=Lh hw10
  have D10:=Lh (D9.out.trans (hb.mono D9.out.size))
  have E10:=Lh (E9.out.trans (hb.mono E9.out.size))
  have HY:=Lh ((hy.mono (fun k hk=>hk.2)).later hb hb.size)
  clear hb hs hy hw10 hB9
  have k3:=(E10.out.block B3 (gS KB3.out).1).trans KB3.out
  have p0:w10.cell? ⟨B3,0,none⟩=some (.int .i64 f.kind):=cH k3 rfl
  have p1:w10.cell? ⟨B3,1,none⟩=some (.string ⟨f.name.toArray⟩):=cH k3 rfl
  have p2:w10.cell? ⟨B3,2,none⟩=some (.int .i64 f.n):=cH k3 rfl
  have p3:w10.cell? ⟨B3,3,none⟩=some (.slice x.t.a f.terms.length x.t.cap):=cH k3 rfl
  have p4:w10.cell? ⟨B3,4,none⟩=some (.slice x.b.a f.binds.length x.b.cap):=cH k3 rfl
  have p5:w10.cell? ⟨B3,5,none⟩=some (.slice x.l.a f.l.length x.l.cap):=cH k3 rfl
  have q0:w10.cell? ⟨B9,0,none⟩=some (.int .i64 f.kind):=cH hx rfl
  have q1:w10.cell? ⟨B9,1,none⟩=some (.string ⟨f.name.toArray⟩):=cH hx rfl
  have q2:w10.cell? ⟨B9,2,none⟩=some (.int .i64 f.n):=cH hx rfl
  have q3:w10.cell? ⟨B9,3,none⟩=some (.slice y.t.a f.terms.length y.t.cap):=cH hx rfl
  have q4:w10.cell? ⟨B9,4,none⟩=some (.slice y.b.a f.binds.length y.b.cap):=cH hx rfl
  have q5:w10.cell? ⟨B9,5,none⟩=some (.slice y.l.a f.l.length y.l.cap):=cH hx rfl
  have p3':∀ j,(w9.alloc (.cells #[.int .i64 f.kind,.string ⟨f.name.toArray⟩,.int .i64 f.n,.slice y.t.a f.terms.length y.t.cap,.slice y.b.a f.binds.length y.b.cap,.slice y.l.a f.l.length y.l.cap] 28)).cell? ⟨B3,j,none⟩=w10.cell? ⟨B3,j,none⟩:=fun j=>by rw [HW10.out]
  have HSM:=Lh (fsame_any _ f f w10 (Nat.le_refl _) HFT.out x y (HX.out.later E10.out E10.out.size) HY.out)
  rw [frmEq_self] at HSM
  simp only [FrmA.cells,SlA.val] at HSM
  clear k3 hx p3'
  have k9:w9.heap[B3]?=some (.cells #[.int .i64 f.kind,.string ⟨f.name.toArray⟩,.int .i64 f.n,.slice x.t.a f.terms.length x.t.cap,.slice x.b.a f.binds.length x.b.cap,.slice x.l.a f.l.length x.l.cap] 28 (0,0)):=(E9.out.block B3 (gS KB3.out).1).trans KB3.out
  have hl9:=(gS k9).1
  have r0:w9.cell? ⟨B3,0,none⟩=some (.int .i64 f.kind):=cH k9 rfl
  have r1:w9.cell? ⟨B3,1,none⟩=some (.string ⟨f.name.toArray⟩):=cH k9 rfl
  have r2:w9.cell? ⟨B3,2,none⟩=some (.int .i64 f.n):=cH k9 rfl
  have r3:w9.cell? ⟨B3,3,none⟩=some (.slice x.t.a f.terms.length x.t.cap):=cH k9 rfl
  have r4:w9.cell? ⟨B3,4,none⟩=some (.slice x.b.a f.binds.length x.b.cap):=cH k9 rfl
  have r5:w9.cell? ⟨B3,5,none⟩=some (.slice x.l.a f.l.length x.l.cap):=cH k9 rfl
  clear k9
  go_wp2_with fail
  rw [<- HW10.out,<- HBB9.out]
  refine HSM.out.mono ?_
  rintro e w11 ⟨rfl,hb⟩
  have D11:=Lh (D10.out.trans (hb.mono D10.out.size))
  clear hb
  go_wp2_with fail
  go_ret
  exact ⟨rfl,D11.out⟩
 ·rcases hlaw with ⟨_,_,_,h4⟩ | hl
  ·rw [hs] at h4;exact absurd rfl h4
  rw [hs] at hl
  simp only at hl
  have HL:=Lh hl
  have HNB:=Lh (fun (h:c=50)=>synForm_lexat (b:=bs) (by omega) (n:=n) (by rw [hs,h]))
  clear hb hs hl HF2
  obtain ⟨B3,hB3⟩:∃ B3,B3=w3.heap.size:=⟨_,rfl⟩
  obtain ⟨w4,hw4⟩:∃ w4,w4=w3.alloc (.cells #[.int .i64 0,.string ⟨#[]⟩,.int .i64 0,.slice none 0 0,.slice none 0 0,.slice none 0 0] 28):=⟨_,rfl⟩
  have hb:Below w3.heap.size w3 w4:=by rw [hw4];exact below_new _ _
  have hx:w4.heap[B3]?=some (.cells #[.int .i64 0,.string ⟨#[]⟩,.int .i64 0,.slice none 0 0,.slice none 0 0,.slice none 0 0] 28 (0,0)):=by rw [hw4,hB3];exact heap_alloc_new _ _
  have KB3:=Lh hx
  have HBB3:=Lh hB3
  have HW4:=Lh hw4
  have D4:=Lh (D3.out.trans (hb.mono D3.out.size))
  have E4:=Lh (Below.refl w4.heap.size w4)
  clear hb hx hw4 hB3
  go_wp2_with (first | (with_reducible refine wpList_row ?_) | (with_reducible refine wpList_app ?_))
  rw [<- HW4.out,<- HBB3.out]
  unfold Hold
  refine wpList_step fun K hK=>?_
  rw [if_pos (by kernel_rfl)]
  go_simp
  refine hK _ _ ?_
  clear hK K
  try simp only [Act.put,List.setIfInBounds_toArray,List.set_cons_zero,List.set_cons_succ]
  have ho:=OwnB.lit (w:=w4) (e:=5) [40] 1 #[.int .u8 40] rfl rfl (by decide)
  have hs:=SB.lit (w:=w4) (e:=5) [40] #[.int .u8 40] rfl
  have hb:Below w4.heap.size w4 (w4.alloc (.cells #[.int .u8 40] 5)):=below_new _ _
  obtain ⟨R1,hR1⟩:∃ R1,R1=w4.heap.size:=⟨_,rfl⟩
  rw [<- hR1] at ho hs ⊢
  generalize w4.alloc (.cells #[.int .u8 40] 5)=w5 at hb ho hs ⊢
  have HR1:=Lh hR1
  clear hR1
  have M5:=Lh hb
  have O5:=Lh ho
  have S5:=Lh (HSB.out.below (D4.out.trans (M5.out.mono D4.out.size)) (D4.out.trans (M5.out.mono D4.out.size)).size)
  clear hb ho hs
  go_wp2_with (first | (with_reducible refine wpList_row ?_) | (with_reducible refine wpList_app ?_))
  unfold Hold
  refine wpList_append_bytes _ (by rfl) _ _ 22 rfl 5 i0 _ Tryz.underlying22 hi hz0 hz1 hz2 rfl (.slice (some ⟨R1,0,none⟩) 1 1) (.slice a bs.length cap) (some R1) ([40]) (bs) rfl rfl O5.out (a) (b) (o) (cap) rfl S5.out (by simp only [List.length_append,List.length_cons,List.length_nil];omega) ?_
  intro ca ccap cq w6 hown hmod hat
  have M6:Hid (Below w4.heap.size w4 w6):=Lh (M5.out.trans (hmod.below M5.out.size (fun k hk=>by cases hk;exact Nat.le_of_eq HR1.out.symm)))
  have hq6:∀ k,cq=some k->w4.heap.size<=k:=fun k hk=>by rcases hat with h | h <;> rw [h] at hk <;> cases hk;exact Nat.le_of_eq HR1.out.symm;exact M5.out.size
  have O6:=Lh (aI hown hq6)
  clear hown hmod hat hq6
  go_wp2_with (first | (with_reducible refine wpList_row ?_) | (with_reducible refine wpList_app ?_))
  unfold Hold
  refine wpList_step fun K hK=>?_
  rw [if_pos (by kernel_rfl)]
  go_simp
  refine hK _ _ ?_
  clear hK K
  try simp only [Act.put,List.setIfInBounds_toArray,List.set_cons_zero,List.set_cons_succ]
  have ho:=OwnB.lit (w:=w6) (e:=5) [10,41] 2 #[.int .u8 10,.int .u8 41] rfl rfl (by decide)
  have hs:=SB.lit (w:=w6) (e:=5) [10,41] #[.int .u8 10,.int .u8 41] rfl
  have hb:Below w6.heap.size w6 (w6.alloc (.cells #[.int .u8 10,.int .u8 41] 5)):=below_new _ _
  obtain ⟨R2,hR2⟩:∃ R2,R2=w6.heap.size:=⟨_,rfl⟩
  rw [<- hR2] at ho hs ⊢
  generalize w6.alloc (.cells #[.int .u8 10,.int .u8 41] 5)=w7 at hb ho hs ⊢
  have HR2:=Lh hR2
  clear hR2
  have M7:=Lh (M6.out.trans (hb.mono M6.out.size))
  have O7:=Lh (O6.out.1.below hb)
  have S7:=Lh hs
  clear hb ho hs
  go_wp2_with (first | (with_reducible refine wpList_row ?_) | (with_reducible refine wpList_app ?_))
  unfold Hold
  refine wpList_append_bytes _ (by rfl) _ _ 22 rfl 5 i0 _ Tryz.underlying22 hi hz0 hz1 hz2 rfl (.slice ca ([40].length+bs.length) ccap) (.slice (some ⟨R2,0,none⟩) 2 2) (cq) ([40]++bs) ([10,41]) rfl rfl O7.out (some ⟨R2,0,none⟩) (R2) (0) (2) rfl S7.out (by simp only [List.length_append,List.length_cons,List.length_nil];omega) ?_
  intro da dcap dq w8 hown hmod hat
  have M8:Hid (Below w4.heap.size w4 w8):=Lh (M7.out.trans (hmod.below M7.out.size (fun k hk=>O6.out.2 k hk)))
  have D8:=Lh (D4.out.trans (M8.out.mono D4.out.size))
  have E8:=Lh (M8.out)
  obtain ⟨da',db,dcap',hv,hsb8,hcp8,_⟩:=hown.read
  rw [hv]
  rw [show [40]++bs++[10,41]=40 :: (bs++[10,41]) from by simp] at hsb8 hcp8 ⊢
  have HF8:=Lh (HFM.out (40 :: (bs++[10,41])) da' db 0 dcap' w8 D8.out hsb8 hcp8)
  obtain ⟨nn,hnn⟩:∃ nn,nn=(40 :: (bs++[10,41])).length:=⟨_,rfl⟩
  rw [<- hnn] at HF8 ⊢
  clear hown hmod hat hv hsb8 hcp8 hnn
  go_wp2_with fail
  refine HF8.out.mono ?_
  rintro e w9 ⟨hb,hr⟩
  have D9:=Lh (D8.out.trans (hb.mono D8.out.size))
  have E9:=Lh (E8.out.trans (hb.mono E8.out.size))
  have HB9:=Lh hb
  clear hb HF8
  have D10:∀ o:Obj,Below w.heap.size w (w9.alloc o):=fun o=>D9.out.trans ((below_new w9 o).mono D9.out.size)
  have HD10:=Lh D10
  clear D10
  have hc0:(c==0)=false:=by simpa using HL.out.1
  rcases HL.out.2 with h50 | ⟨h2,h3⟩
  ·have hc5:(c==50)=false:=by simpa using h50
   have h50:¬ c=50:=by simpa using h50
   rcases hr with ⟨g,y,hs,rfl,hy⟩ | ⟨n',c',hs,rfl⟩
   ·go_wp2_with fail
    go_ret
    exact ⟨rfl,HD10.out _⟩
   ·go_wp2_with fail
    go_ret
    exact ⟨rfl,HD10.out _⟩
  by_cases h50:c=50
  rotate_left
  ·have hc5:(c==50)=false:=by simpa using h50
   clear h2 h3
   rcases hr with ⟨g,y,hs,rfl,hy⟩ | ⟨n',c',hs,rfl⟩
   ·go_wp2_with fail
    go_ret
    exact ⟨rfl,HD10.out _⟩
   ·go_wp2_with fail
    go_ret
    exact ⟨rfl,HD10.out _⟩
  subst h50
  clear hc0
  rcases hr with ⟨g,y,hs,_,_⟩ | ⟨n',c',hs,rfl⟩
  ·rw [hs] at h2;simp at h2
  rw [hs] at h2 h3
  simp only at h2 h3
  subst h2 h3
  have hnb:=HNB.out rfl
  have hwr:IntKind.i64.wrap ((n:Int)+1)=(n:Int)+1:=IntWalk.i64_in _ (by omega)
  have hwr2:wrap64 ((n:Int)+1)=(n:Int)+1:=IntWalk.wrap64_in _ (by omega)
  have hcast:((n+1:Nat):Int)=(n:Int)+1:=by omega
  rw [hcast]
  clear hs hcast
  go_wp2_with fail
  go_ret
  exact ⟨rfl,HD10.out _⟩
end Go.Proofs.YtpmalchlecnjbaaGreatDoor
/- The law's ahead and tokens; a head of a slice of bytes. (written by tools/gen_wpl.py) -/
namespace Go.Chalk
open Go.RowKit
theorem take_N {P:Program} {ops:Array Oper} {md:Region.Mode} {Q:Exit->Act->World->Prop} {k:Nat} {S:World->Prop} {i:Nat} {dst:Option Tmp} {op:Op} {ty:TypeId} {ps:String} {aft:Array Edge} {gd:Option (Nat×Bool)} {fuel:Nat} {listed:Array Bool} {a:Act} {w:World} (hi:ops[i]?=some ⟨dst,op,ty,ps,aft,gd⟩)
  (hs:Region.noSelect ops=true) (hf:Region.free md ops listed i=true) (hr:(Region.ready md ops listed).contains i=true) (hk:((i != k)&&waitsB md ops k i&&!(listed.getD k false))=true)
  (hQ:∀ c a w,Q (.panic c) (a.put dst undef) w->Q (.panic c) a w) (hw:Region.wanted ⟨dst,op,ty,ps,aft,gd⟩ (yielded ops a.tmps)=false) (hS:S w)
  (h:wpAnyU P md ops Q k S fuel (listed.setIfInBounds i true) (a.put dst undef) w):wpAnyU P md ops Q k S (fuel+1) listed a w:=by
 simp only [Bool.and_eq_true,bne_iff_ne,Bool.not_eq_true'] at hk
 exact wpAnyU_first (c:=false) (S':=S) hi (Region.noSelect_spec hs) hQ hk.1.1 (fun _=>hk.1.2) (fun w h=>h rfl) fuel listed a w hk.2 (Region.free_spec hi hf) (by simpa using hr) (.inr ⟨hw,rfl⟩) (fun _=>hS) h
theorem filt_take {ts:List Tok} {j d:Nat} (h:j<ts.length):(ts.take (j+1)).filter (fun t=>decide (t.at_<d))=(ts.take j).filter (fun t=>decide (t.at_<d))++(if ts[j].at_<d then [ts[j]] else []):=by
 rw [List.take_succ_eq_append_getElem h,List.filter_append]
 congr 1
 by_cases hd:ts[j].at_<d <;> simp [hd]
theorem synForm_none {b:Bs} {n:Nat} {c:Int} (h:synForm b=(none,n,c)):c ≠ 0:=by
 rw [synForm_eq] at h
 split at h
 ·rename_i h0;simp at h;rw [<- h.2];exact h0
 ·split at h
  ·simp at h;omega
  ·split at h
   ·simp at h;omega
   ·split at h
    ·rename_i h1;simp at h;rw [<- h.2];exact h1
    ·simp at h
end Go.Chalk
namespace Go.Proofs.YtpmalchlecnjbaaGreatDoor
open Go.RowKit Go.Chalk
attribute [local go_sem] Oper.semAt_some
theorem tok_infoL:(Tryz.prog.info? 51).map (fun i=>(i.zero,i.size,i.bytes))=some (some (.agg #[.int .i64 0,.string ⟨#[]⟩,.int .i64 0]),3,32):=by kernel_rfl
theorem bytes_head {w:World} {B:Nat} {l:Bs} {a:Option Addr} {b o:Nat} (h:SB w B l a b o) (d cap:Nat) (hd:d<=l.length) (hc:l.length<=cap) :
  ∃ A:Option Addr,(∀ W:World,(Instr.slice 22 (.slice a l.length cap) none (some (.int .i64 (d:Int))) none).run Tryz.prog W=.ok (.slice A d cap) W)/\SB w B (l.take d) A b o:=by
 have hz:∀ w,(Go.sizeOf 5).run Tryz.prog w=.ok 1 w:=fun w=>Tryz.sizeOf5 w
 have ht':Tryz.prog.underlying 22=some (.slice (Tryz.prog.elem 22)):=by kernel_rfl
 have he:Tryz.prog.elem 22=5:=by kernel_rfl
 refine ⟨if cap=0 then a else a.map (·.add (0*1)),fun W=>?_,?_⟩
 ·rw [run_slice_h W 22 _ _ _ ht' .i64 _ (by omega) (by omega),he,hz]
  simp [Result.andThen,sliced]
 ·refine ⟨fun hp=>?_,fun i hi=>?_⟩
  ·rw [List.length_take] at hp
   obtain ⟨rfl,hb⟩:=h.1 (by omega)
   refine ⟨?_,hb⟩
   split
   ·rfl
   ·simp [Addr.add]
  ·rw [List.length_take] at hi
   have:=h.2 i (by omega)
   simpa using this
theorem ahead_any (ts:List Tok) (d:Nat) (a:Option Addr) (b o cap:Nat) (w:World) (hv:TksV w w.heap.size ts (placesF ts) a b o) (hmax:ts.length<=100000) (hok:∀ t∈ts,t.ok) :
  Calls Tryz.prog 28 #[.slice a ts.length cap,.int .i64 (d:Int)] w fun e w'=>∃ v,e=.returned v/\OwnF w' 51 3 w.heap.size v ((ts.filter (fun t=>decide (t.at_<d))).map Tok.toD)/\Below w.heap.size w w':=by
 obtain ⟨i0,hi,hz0,hz1,hz2⟩:=info_parts tok_infoL
 obtain ⟨n,hn⟩:∃ n,n=ts.length:=⟨_,rfl⟩
 have gx:=hv.1
 have HV:=Lh hv.2
 have HOK:=Lh (fun (j:Nat) (hj:j<ts.length)=>hok _ (List.getElem_mem hj))
 rw [<- hn]
 rw [<- hn] at gx hmax
 have HN:=Lh hn
 clear hv hok hn
 go_enter Tryz.func28,Tryz.ntmps28
 go_wp2_with fail
 go_loopw [5,10] (fun v i wr=>∃ (j m:Nat) (oa:Option Addr) (oc:Nat),j<=n/\m<=j/\i=.int .i64 j/\v=.slice oa m oc/\Hid (((ts.take j).filter (fun t=>decide (t.at_<d))).length=m)/\Hid (OwnF wr 51 3 w.heap.size (.slice oa m oc) (((ts.take j).filter (fun t=>decide (t.at_<d))).map Tok.toD))/\Hid (Below w.heap.size w wr)) (fun _ i _=>n - (intOf i).toNat)
 case atStart=>exact ⟨0,0,none,0,by omega,by omega,rfl,rfl,Lh rfl,Lh (OwnF.nil _ _ _ _),Lh (Below.refl _ _)⟩
 case round =>
  obtain ⟨j,m,oa,oc,hj,hm,rfl,rfl,HL,HO,HB⟩:=hrel
  by_cases hlt:j<n
  ·obtain ⟨hxa,xl⟩:=gx (by omega)
   have hjl:j<ts.length:=by have:=HN.out;omega
   obtain ⟨y0,y1,y2⟩:=HV.out j hjl
   rw [placesF_get hjl] at y2
   have hbd:=HB.out
   have x0:=(hbd.cell (p:=⟨b,o+j*3,none⟩) xl).trans y0
   have x1:=(hbd.cell (p:=⟨b,o+j*3+1,none⟩) xl).trans y1
   have x2:=(hbd.cell (p:=⟨b,o+j*3+2,none⟩) xl).trans y2
   have htk:=HOK.out j hjl
   have hfl:=filt_take (d:=d) hjl
   rw [hxa]
   clear y0 y1 y2 hxa hbd
   generalize ts[j]=tk at *
   clear hjl
   obtain ⟨kt,xt,nt⟩:=tk
   have HDS:=Lh (fun (W:World) (F:Nat->Prop)=>Tok.at (w:=W) (F:=F) ⟨kt,xt,nt⟩ htk)
   simp only at x0 x1 x2 HDS
   obtain ⟨W0,hW0⟩:∃ W0,W0=wr.alloc (.cells #[.int .i64 kt,.string ⟨xt.toArray⟩,.int .i64 (nt:Int)] 51):=⟨_,rfl⟩
   have hb0:Below wr.heap.size wr W0:=by rw [hW0];exact below_new _ _
   have HW0:=Lh hW0
   have H0:=Lh (aI hb0 (HB.out.trans (hb0.mono HB.out.size)))
   clear htk hb0 hW0
   by_cases hlt2:nt<d
   ·rw [if_pos hlt2] at hfl
    have HFL:=Lh hfl
    clear hfl
    go_wp2_with (with_reducible refine wpList_row ?_)
    rw [<- HW0.out]
    unfold Hold
    refine wpList_step fun K hK=>?_
    rw [if_pos (by kernel_rfl)]
    go_simp
    refine hK _ _ ?_
    clear hK K
    try simp only [Act.put,List.setIfInBounds_toArray,List.set_cons_zero,List.set_cons_succ]
    refine wpList_append_F (W0:=W0) (B:=W0.heap.size) rfl rfl _ _ 47 rfl 51 i0 _ 3 32 Tryz.underlying47 hi hz0 hz1 hz2 rfl (by decide) (.slice oa m oc) (((ts.take j).filter (fun t=>decide (t.at_<d))).map Tok.toD) m (by rw [List.length_map];exact HL.out) (Tok.toD ⟨kt,xt,nt⟩) [.int .i64 kt,.string ⟨xt.toArray⟩,.int .i64 (nt:Int)] _ rfl rfl (HO.out.below H0.out.1) (HDS.out _ _) rfl (by have:=H0.out.2.size;omega) (by unfold maxLen;omega) (by omega) ?_
    intro ao cap5 w5 hO5 hm5
    have H5:=Lh (aI hO5 (H0.out.2.trans (hm5.below H0.out.2.size (fun k hk=>hk))))
    clear hO5 hm5
    go_wp2_with fail
    exact ⟨⟨j+1,m+1,ao,cap5,by omega,by omega,by go_num,rfl,Lh (by rw [HFL.out,List.length_append,HL.out];rfl),Lh (by rw [HFL.out,List.map_append];exact H5.out.1),Lh H5.out.2⟩,by simp [intOf];omega⟩
   ·rw [if_neg hlt2,List.append_nil] at hfl
    have HFL:=Lh hfl
    have h2:decide ((nt:Int)<(d:Int))=false:=by simp;omega
    clear hfl
    go_wp2_with fail
    exact ⟨⟨j+1,m,oa,oc,by omega,by omega,by go_num,rfl,Lh (by rw [HFL.out];exact HL.out),Lh (by rw [HFL.out,<- HW0.out];exact HO.out.below H0.out.1),Lh (by rw [<- HW0.out];exact H0.out.2)⟩,by simp [intOf];omega⟩
  ·have hjl:j=ts.length:=by have:=HN.out;omega
   have ho:=HO.out
   rw [hjl,List.take_length] at ho
   have HOO:=Lh ho
   have hbd:=HB.out
   clear ho hjl
   go_wp2_with fail
   go_ret
   exact ⟨_,rfl,HOO.out,hbd⟩
theorem tokens7_any (bs:Bs) (a:Option Addr) (b o cap:Nat) (w:World) (hsb:SB w w.heap.size bs a b o) (hcap:bs.length<=cap) (hg:GAt w) :
  Calls Tryz.prog 29 #[.slice a bs.length cap] w fun e w'=>∃ v q,e=.returned v/\OwnT w' 51 v q (tokensF bs).1/\Below w.heap.size w w':=by
 have HT:=Lh (tokens_any bs a b o cap w hsb hcap hg)
 clear hsb hg
 go_enter Tryz.func29,Tryz.ntmps29
 go_wp2_with fail
 refine HT.out.mono ?_
 rintro e w1 ⟨v,q,rfl,hO,_,hb⟩
 have H1:=Lh (aI hO hb)
 obtain ⟨av,cv,rfl⟩:=hO.form
 clear hO hb
 go_wp2_with fail
 go_ret
 exact ⟨_,q,rfl,H1.out.1,H1.out.2⟩
end Go.Proofs.YtpmalchlecnjbaaGreatDoor
/- SyntaxFew's match. (written by tools/gen_wfewa.py) -/
namespace Go.Chalk
open Go.RowKit
def openIdx:List Tok->Nat->List Int
 | [],_=>[]
 | t :: r,i=>if t.text=[40] then (i:Int) :: openIdx r (i+1) else openIdx r (i+1)
theorem openIdx_app:∀ (l m:List Tok) (i:Nat),openIdx (l++m) i=openIdx l i++openIdx m (i+l.length)
 | [],m,i=>by simp [openIdx]
 | t :: r,m,i=>by
  rw [List.cons_append,openIdx,openIdx,openIdx_app r m (i+1),List.length_cons,show i+1+r.length=i+(r.length+1) from by omega]
  split <;> simp
theorem openIdx_take {ts:List Tok} {j:Nat} (h:j<ts.length):openIdx (ts.take (j+1)) 0=openIdx (ts.take j) 0++(if ts[j].text=[40] then [(j:Int)] else []):=by
 rw [List.take_succ_eq_append_getElem h,openIdx_app,List.length_take,Nat.min_eq_left (by omega)]
 simp [openIdx]
theorem openIdx_mem:∀ (l:List Tok) (i:Nat) (z:Int),z∈openIdx l i->∃ (k:Nat) (t:Tok),z=((i+k:Nat):Int)/\l[k]?=some t/\t.text=[40]
 | [],i,z,h=>by simp [openIdx] at h
 | t :: r,i,z,h=>by
  rw [openIdx] at h
  have go:z∈openIdx r (i+1)->∃ (k:Nat) (u:Tok),z=((i+k:Nat):Int)/\(t :: r)[k]?=some u/\u.text=[40]:=fun h=>by
   obtain ⟨k,u,h1,h2,h3⟩:=openIdx_mem r (i+1) z h
   exact ⟨k+1,u,by rw [h1];congr 1;omega,by simpa using h2,h3⟩
  split at h
  ·rename_i ht
   rcases List.mem_cons.1 h with rfl | h
   ·exact ⟨0,t,rfl,rfl,ht⟩
   ·exact go h
  ·exact go h
theorem dropIdx_take {ts:List Tok} {j a e:Nat} (h:j<ts.length):dropIdx (ts.take (j+1)) 0 a e=dropIdx (ts.take j) 0 a e++(if j ≠ a/\j ≠ e then [ts[j]] else []):=by
 rw [List.take_succ_eq_append_getElem h,dropIdx_app,List.length_take,Nat.min_eq_left (by omega)]
 simp only [dropIdx,Nat.zero_add]
theorem dropIdx_mem:∀ (l:List Tok) (i a e:Nat) (t:Tok),t∈dropIdx l i a e->t∈l
 | [],_,_,_,t,h=>by simp [dropIdx] at h
 | u :: r,i,a,e,t,h=>by
  rw [dropIdx] at h
  split at h
  ·rcases List.mem_cons.1 h with rfl | h
   ·exact List.mem_cons_self ..
   ·exact List.mem_cons_of_mem _ (dropIdx_mem r _ a e t h)
  ·exact List.mem_cons_of_mem _ (dropIdx_mem r _ a e t h)
theorem matchGo_drop {ts:List Tok} {j:Nat} (h:j<ts.length) (d:Int):matchGo (ts.drop j) d j=if ts[j].text=[40] then matchGo (ts.drop (j+1)) (d+1) (j+1) else if ts[j].text=[41] then (if d - 1=0 then (j:Int) else matchGo (ts.drop (j+1)) (d - 1) (j+1)) else matchGo (ts.drop (j+1)) d (j+1):=by
 rw [List.drop_eq_getElem_cons h,matchGo]
end Go.Chalk
namespace Go.Proofs.YtpmalchlecnjbaaGreatDoor
open Go.RowKit Go.Chalk
attribute [local go_sem] Oper.semAt_some
theorem match_any (ts:List Tok) (p:Nat) (a:Option Addr) (b o cap:Nat) (w:World) (hv:TksV w w.heap.size ts (placesF ts) a b o) (hmax:ts.length<=100000) (hp:p<=ts.length) :
  Calls Tryz.prog 35 #[.slice a ts.length cap,.int .i64 (p:Int)] w fun e w'=>e=.returned (.int .i64 (matchGo (ts.drop p) 0 p))/\Below w.heap.size w w':=by
 obtain ⟨n,hn⟩:∃ n,n=ts.length:=⟨_,rfl⟩
 have gx:=hv.1
 have HV:=Lh hv.2
 rw [<- hn]
 rw [<- hn] at gx hmax hp
 have HN:=Lh hn
 obtain ⟨R,hR⟩:∃ R,R=matchGo (ts.drop p) 0 p:=⟨_,rfl⟩
 rw [<- hR]
 have HR:=Lh hR
 clear hv hn hR
 go_enter Tryz.func35,Tryz.ntmps35
 go_wp2_with fail
 go_loopw [5,6] (fun dv i wr=>∃ (j:Nat) (d:Int),j<=n/\i=.int .i64 j/\dv=.int .i64 d /\ -(j:Int)<=d/\d<=(j:Int)/\Hid (R=matchGo (ts.drop j) d j)/\Hid (Below w.heap.size w wr)) (fun _ i _=>n - (intOf i).toNat)
 case atStart=>exact ⟨p,0,hp,rfl,rfl,by omega,by omega,HR,Lh (Below.refl _ _)⟩
 case round =>
  obtain ⟨j,d,hj,rfl,rfl,hd1,hd2,HM,HB⟩:=hrel
  by_cases hlt:j<n
  ·obtain ⟨hxa,xl⟩:=gx (by omega)
   have hjl:j<ts.length:=by have:=HN.out;omega
   obtain ⟨_,y1,_⟩:=HV.out j hjl
   have hm:=HM.out
   rw [matchGo_drop hjl] at hm
   have hbd:=HB.out
   have x1:=(hbd.cell (p:=⟨b,o+j*3+1,none⟩) xl).trans y1
   rw [hxa]
   clear y1 hxa hbd HM
   generalize ts[j]=tk at *
   clear hjl
   obtain ⟨kt,xt,nt⟩:=tk
   simp only at x1 hm
   by_cases h40:xt=[40]
   ·subst h40
    rw [if_pos rfl] at hm
    have HM:=Lh hm
    clear hm
    go_wp2_with fail
    exact ⟨⟨j+1,d+1,by omega,by go_num,by go_num,by omega,by omega,HM,HB⟩,by simp [intOf];omega⟩
   ·have e40:(xt==[40])=false:=by simpa using h40
    rw [if_neg h40] at hm
    by_cases h41:xt=[41]
    ·subst h41
     rw [if_pos rfl] at hm
     by_cases hd0:d=1
     ·subst hd0
      rw [if_pos (by omega)] at hm
      subst hm
      clear e40 h40
      go_wp2_with fail
      go_ret
      exact ⟨rfl,HB.out⟩
     ·rw [if_neg (by omega)] at hm
      have HM:=Lh hm
      clear hm e40 h40
      have hd0':¬ (d - 1=0):=by omega
      have hd0'':((d - 1:Int)==0)=false:=by simpa using hd0'
      have hwr:IntKind.i64.wrap (d - 1)=d - 1:=IntWalk.i64_in _ (by omega)
      go_wp2_with fail
      exact ⟨⟨j+1,d - 1,by omega,by go_num,by go_num,by omega,by omega,HM,HB⟩,by simp [intOf];omega⟩
    ·have e41:(xt==[41])=false:=by simpa using h41
     rw [if_neg h41] at hm
     have HM:=Lh hm
     clear hm h40 h41
     go_wp2_with fail
     exact ⟨⟨j+1,d,by omega,by go_num,rfl,by omega,by omega,HM,HB⟩,by simp [intOf];omega⟩
  ·have hjl:j=ts.length:=by have:=HN.out;omega
   have hm:=HM.out
   rw [hjl,List.drop_length,matchGo] at hm
   subst hm
   have hbd:=HB.out
   clear HM hjl
   go_wp2_with fail
   go_ret
   exact ⟨rfl,hbd⟩
end Go.Proofs.YtpmalchlecnjbaaGreatDoor
/- SyntaxFew, walked. (written by tools/gen_wfew.py) -/
namespace Go.Chalk
open Go.RowKit
theorem few_sum:∀ (l:List Nat) (N:Nat),(∀ x∈l,x<=N)->l.sum<=l.length*N
 | [],N,_=>by simp
 | a :: r,N,h=>by
  have h1:=few_sum r N (fun x hx=>h x (List.mem_cons_of_mem _ hx))
  have h2:=h a (List.mem_cons_self ..)
  rw [List.sum_cons,List.length_cons,Nat.add_mul,Nat.one_mul]
  omega
theorem few_mem {l:List Nat} {x:Nat} (h:x∈l):x<=l.sum:=by
 induction l with
 | nil=>simp at h
 | cons a r ih=>rcases List.mem_cons.1 h with rfl | h;simp;have:=ih h;simp;omega
theorem few_spaced {L:List Tok} (hn:L.length<=16385) (h:∀ t∈L,t.text.length<=16384):(spaced ((L.take (L.length - 1)).map Tok.text)).length<=140737488355328:=by
 have h1:=spaced_length ((L.take (L.length - 1)).map Tok.text)
 have h2:=few_sum (((L.take (L.length - 1)).map Tok.text).map List.length) 16384 (fun x hx=>by
  rw [List.map_map] at hx
  obtain ⟨t,ht,rfl⟩:=List.mem_map.1 hx
  exact h t (List.mem_of_mem_take ht))
 have h3:(L.take (L.length - 1)).length<=16385:=by rw [List.length_take];omega
 simp only [List.length_map] at h1 h2
 have h4:=Nat.mul_le_mul_right 16384 h3
 omega
theorem few_tokens {f:Frm} (hf:frmCheck f=0) (hl:(txtF f).length<=16384):∃ ts,tokensF (txtF f)=(ts,0,0)/\ts.length<=16385/\∀ t∈ts,t.text.length<=16384:=by
 obtain ⟨hw,_,_⟩:=frmCheck_wf hf
 obtain ⟨ts,h1,h2⟩:=lexS_all (txt_ok f hw).1
 obtain ⟨toks,n,hr,_,hlen,hsum⟩:=goF_right ((txtF f).length+1) (txtF f) 0 [] _ _ (by omega) h2
 rw [List.nil_append] at hr
 refine ⟨_,by rw [tokensF_small hl,h2],by rw [hr];simp;omega,fun t ht=>?_⟩
 rw [hr] at ht
 rcases List.mem_append.1 ht with ht | ht
 ·have:=few_mem (List.mem_map.2 ⟨t,ht,rfl⟩:t.text.length∈toks.map (fun t=>t.text.length))
  omega
 ·simp at ht;subst ht;simp
end Go.Chalk
namespace Go.Proofs.YtpmalchlecnjbaaGreatDoor
open Go.RowKit Go.Chalk
attribute [local go_sem] Oper.semAt_some
theorem int_infoL:(Tryz.prog.info? 3).map (fun i=>(i.zero,i.size,i.bytes))=some (some (.int .i64 0),1,8):=by kernel_rfl
theorem few_walk (f:Frm) (x:FrmA) (m:Int) (w:World) (hg:GS w) (hf:FrmFit f) (hx:FrmIn w (·<w.heap.size) f x):Calls Tryz.prog 12 #[.agg (x.cells f).toArray,.int .i64 m] w fun e w'=>e=.returned (.bool true)/\Below w.heap.size w w':=by
 obtain ⟨i0,hi,hz0,hz1,hz2⟩:=info_parts int_infoL
 obtain ⟨j0,ji,jz0,jz1,jz2⟩:=info_parts tok_infoL
 have HFM:=Lh (fun (bs:Bs) (a:Option Addr) (b o cap:Nat) (W:World) (hW:Below w.heap.size w W) (h1:SB W W.heap.size bs a b o) (h2:bs.length<=cap)=>sform_any bs a b o cap W h1 h2 (hg.below hW))
 have HTX:=Lh (fun (f:Frm) (y:FrmA) (W:World) (hW:Below w.heap.size w W) (h1:FrmIn W (·<W.heap.size) f y) (h2:FrmFit f)=>stext_any f y W h1 h2 (hg.below hW))
 have HLV:=Lh (fun (W:World) (hW:Below w.heap.size w W)=>live_any W (hg.below hW))
 have HTK:=Lh (fun (bs:Bs) (a:Option Addr) (b o cap:Nat) (W:World) (hW:Below w.heap.size w W) (h1:SB W W.heap.size bs a b o) (h2:bs.length<=cap)=>tokens_any bs a b o cap W h1 h2 (hg.below hW).gat)
 have HF:=Lh (aI hx hf)
 have HSZ:=Lh (fun (W:World) (hW:Below w.heap.size w W)=>r6size_pos f x W (hx.later hW hW.size) hf.size)
 have HGA:=Lh (fun (W:World) (hW:Below w.heap.size w W)=>(hg.below hW).gat)
 simp only [FrmA.cells,SlA.val]
 obtain ⟨B1,hB1⟩:∃ B1,B1=w.heap.size:=⟨_,rfl⟩
 obtain ⟨w1,hw1⟩:∃ w1,w1=w.alloc (.cells #[.int .i64 f.kind,.string ⟨f.name.toArray⟩,.int .i64 f.n,.slice x.t.a f.terms.length x.t.cap,.slice x.b.a f.binds.length x.b.cap,.slice x.l.a f.l.length x.l.cap] 28):=⟨_,rfl⟩
 have hb:Below w.heap.size w w1:=by rw [hw1];exact below_new _ _
 have hx1:w1.heap[B1]?=some (.cells #[.int .i64 f.kind,.string ⟨f.name.toArray⟩,.int .i64 f.n,.slice x.t.a f.terms.length x.t.cap,.slice x.b.a f.binds.length x.b.cap,.slice x.l.a f.l.length x.l.cap] 28 (0,0)):=by rw [hw1,hB1];exact heap_alloc_new _ _
 have KB1:=Lh hx1
 have HB1:=Lh hB1
 have HW1:=Lh hw1
 have D1:=Lh hb
 have E1:=Lh (Below.refl w1.heap.size w1)
 clear hb hx1 hB1 hw1 hx hf hg
 go_enter Tryz.func12,Tryz.ntmps12
 go_wp2_with fail
 rw [<- HW1.out,<- HB1.out]
 refine (HLV.out w1 D1.out).mono ?_
 rintro e w2 ⟨rfl,hb⟩
 have D2:=Lh (D1.out.trans (hb.mono D1.out.size))
 have E2:=Lh (E1.out.trans (hb.mono E1.out.size))
 clear hb
 have kB1:=(E2.out.block B1 (gS KB1.out).1).trans KB1.out
 have p0:w2.cell? ⟨B1,0,none⟩=some (.int .i64 f.kind):=cH kB1 rfl
 have p1:w2.cell? ⟨B1,1,none⟩=some (.string ⟨f.name.toArray⟩):=cH kB1 rfl
 have p2:w2.cell? ⟨B1,2,none⟩=some (.int .i64 f.n):=cH kB1 rfl
 have p3:w2.cell? ⟨B1,3,none⟩=some (.slice x.t.a f.terms.length x.t.cap):=cH kB1 rfl
 have p4:w2.cell? ⟨B1,4,none⟩=some (.slice x.b.a f.binds.length x.b.cap):=cH kB1 rfl
 have p5:w2.cell? ⟨B1,5,none⟩=some (.slice x.l.a f.l.length x.l.cap):=cH kB1 rfl
 clear kB1
 go_wp2_with fail
 refine (HSZ.out w2 D2.out).mono ?_
 rintro e w3 ⟨n,rfl,hb⟩
 have D3:=Lh (D2.out.trans (hb.mono D2.out.size))
 have E3:=Lh (E2.out.trans (hb.mono E2.out.size))
 clear hb
 clear p0 p1 p2 p3 p4 p5
 by_cases hbig:300<n
 ·have hbig':decide (300<n)=true:=decide_eq_true hbig
  go_wp2_with fail
  go_ret
  exact ⟨rfl,D3.out⟩
 have hbig':decide (300<n)=false:=decide_eq_false hbig
 clear hbig
 by_cases hneg:m<0
 ·have hneg':decide (m<0)=true:=decide_eq_true hneg
  go_wp2_with fail
  go_ret
  exact ⟨rfl,D3.out⟩
 obtain ⟨mn,rfl⟩:=Int.eq_ofNat_of_zero_le (Int.not_lt.1 hneg)
 have hneg':decide ((mn:Int)<0)=false:=decide_eq_false hneg
 clear hneg
 have kB1:=(E3.out.block B1 (gS KB1.out).1).trans KB1.out
 have p0:w3.cell? ⟨B1,0,none⟩=some (.int .i64 f.kind):=cH kB1 rfl
 have p1:w3.cell? ⟨B1,1,none⟩=some (.string ⟨f.name.toArray⟩):=cH kB1 rfl
 have p2:w3.cell? ⟨B1,2,none⟩=some (.int .i64 f.n):=cH kB1 rfl
 have p3:w3.cell? ⟨B1,3,none⟩=some (.slice x.t.a f.terms.length x.t.cap):=cH kB1 rfl
 have p4:w3.cell? ⟨B1,4,none⟩=some (.slice x.b.a f.binds.length x.b.cap):=cH kB1 rfl
 have p5:w3.cell? ⟨B1,5,none⟩=some (.slice x.l.a f.l.length x.l.cap):=cH kB1 rfl
 clear kB1
 have HT:=Lh (HTX.out f x w3 D3.out (HF.out.1.later D3.out D3.out.size) HF.out.2)
 simp only [FrmA.cells,SlA.val] at HT
 go_wp2_with fail
 refine HT.out.mono ?_
 rintro e w4 ⟨v1,rfl,hv1,hb⟩
 have D4:=Lh (D3.out.trans (hb.mono D3.out.size))
 have E4:=Lh (E3.out.trans (hb.mono E3.out.size))
 clear p0 p1 p2 p3 p4 p5
 clear hb HT
 obtain ⟨er,her⟩:∃ er,er=(synText f).2:=⟨_,rfl⟩
 rw [<- her]
 have HER:=Lh her
 clear her
 by_cases he:er=0
 rotate_left
 ·have he2:(er==0)=false:=by simpa using he
  have hs0:(synText f).1=[]:=synText_bad (by rw [<- HER.out];exact he)
  rw [hs0] at hv1
  obtain ⟨a,b,o,cap,rfl,_,_⟩:=hv1
  clear hs0
  go_wp2_with fail
  go_ret
  exact ⟨rfl,D4.out⟩
 subst he
 obtain ⟨hs,hfc,hlen⟩:=synText_good HER.out.symm
 rw [hs] at hv1
 simp only at hv1
 clear HER
 obtain ⟨ts,hts,hn1,htx⟩:=few_tokens hfc hlen
 have hok:=(toks_ok (b:=txtF f) (by rw [hts])).2.1
 rw [hts] at hok
 have hok:∀ u∈ts,u.ok:=fun u hu=>⟨(hok u hu).lo,(hok u hu).hi,(hok u hu).len,(hok u hu).at_⟩
 have hlaw:=fun (i:Nat) (t:Tok)=>few_law (f:=f) hfc hlen (at_:=i) (t:=t)
 rw [hts] at hlaw
 simp only at hlaw
 have HLAW:=Lh hlaw
 have HOK:=Lh (aI hok htx)
 clear hlaw hok htx
 obtain ⟨a,b,o,cap,rfl,hsb,hcp⟩:=hv1
 have HTT:=Lh (HTK.out (txtF f) a b o cap w4 D4.out hsb hcp)
 clear hsb hcp HTK
 obtain ⟨nn,hnn⟩:∃ nn,nn=(txtF f).length:=⟨_,rfl⟩
 rw [<- hnn] at HTT ⊢
 have HTS:=Lh hts
 clear hs hfc hlen hnn hts
 go_wp2_with fail
 refine HTT.out.mono ?_
 rintro e w5 ⟨v,q,rfl,hO,_,hb⟩
 have D5:=Lh (D4.out.trans (hb.mono D4.out.size))
 have E5:=Lh (E4.out.trans (hb.mono E4.out.size))
 rw [HTS.out] at hO ⊢
 simp only at hO
 obtain ⟨va,vb,vo,vc,rfl,hrd,hvc⟩:=hO.read
 obtain ⟨n,hn⟩:∃ n,n=ts.length:=⟨_,rfl⟩
 rw [<- hn] at hn1 ⊢
 have HN:=Lh hn
 have gx:=hrd.1
 rw [<- hn] at gx
 have HRD:=Lh hrd
 clear hb hO hrd hn HTT hvc hbig' hneg'
 go_wp2_with fail
 go_loopw [10,52] (fun v i wr=>∃ (j m:Nat) (oa:Option Addr) (oc:Nat),j<=n/\m<=j/\i=.int .i64 j/\v=.slice oa m oc/\Hid ((openIdx (ts.take j) 0).length=m)/\Hid (OwnF wr 3 1 w5.heap.size (.slice oa m oc) (dints (openIdx (ts.take j) 0)))/\Hid (Below w5.heap.size w5 wr)) (fun _ i _=>n - (intOf i).toNat)
 case atStart=>exact ⟨0,0,none,0,by omega,by omega,rfl,rfl,Lh rfl,Lh (OwnF.nil _ _ _ _),Lh (Below.refl _ _)⟩
 case round =>
  obtain ⟨j,m,oa,oc,hj,hm,rfl,rfl,HL,HO,HB⟩:=hrel
  by_cases hlt:j<n
  ·obtain ⟨hxa,xl⟩:=gx (by omega)
   have hjl:j<ts.length:=by have:=HN.out;omega
   obtain ⟨y0,y1,y2⟩:=HRD.out.2 j hjl
   rw [placesF_get hjl] at y2
   have hbd:=HB.out
   have x0:=(hbd.cell (p:=⟨vb,vo+j*3,none⟩) xl).trans y0
   have x1:=(hbd.cell (p:=⟨vb,vo+j*3+1,none⟩) xl).trans y1
   have x2:=(hbd.cell (p:=⟨vb,vo+j*3+2,none⟩) xl).trans y2
   have hop:=openIdx_take hjl
   rw [hxa]
   clear y0 y1 y2 hxa hbd
   generalize ts[j]=tk at *
   clear hjl
   obtain ⟨kt,xt,nt⟩:=tk
   simp only at x0 x1 x2 hop
   obtain ⟨W0,hW0⟩:∃ W0,W0=wr.alloc (.cells #[.int .i64 kt,.string ⟨xt.toArray⟩,.int .i64 (nt:Int)] 51):=⟨_,rfl⟩
   have hb0:Below wr.heap.size wr W0:=by rw [hW0];exact below_new _ _
   have H0:=Lh (aI hb0 (HB.out.trans (hb0.mono HB.out.size)))
   have hk0:W0.heap[wr.heap.size]?=some (.cells #[.int .i64 kt,.string ⟨xt.toArray⟩,.int .i64 (nt:Int)] 51 (0,0)):=by rw [hW0];exact heap_alloc_new _ _
   have t1:W0.cell? ⟨wr.heap.size,1,none⟩=some (.string ⟨xt.toArray⟩):=cH hk0 rfl
   have HT1:=Lh t1
   have HW0:=Lh hW0
   clear hb0 hW0 hk0 t1
   by_cases h40:xt=[40]
   ·subst h40
    rw [if_pos rfl] at hop
    have HOP:=Lh hop
    clear hop
    go_wp2_with (with_reducible refine wpList_row ?_)
    rw [<- HW0.out]
    unfold Hold
    refine wpList_step fun K hK=>?_
    rw [if_pos (by kernel_rfl)]
    go_simp
    refine hK _ _ ?_
    clear hK K
    try simp only [Act.put,List.setIfInBounds_toArray,List.set_cons_zero,List.set_cons_succ]
    refine wpList_append_F (W0:=W0) (B:=W0.heap.size) rfl rfl _ _ 56 rfl 3 i0 _ 1 8 Tryz.underlying56 hi hz0 hz1 hz2 rfl (by decide) (.slice oa m oc) (dints (openIdx (ts.take j) 0)) m (by rw [dints_length];exact HL.out) (.int .i64 (j:Int)) [.int .i64 (j:Int)] _ rfl rfl (HO.out.below H0.out.1) (DsAt.ints (xs:=[(j:Int)]) (fun z hz=>by simp at hz;subst hz;constructor <;> omega)) rfl (by have:=H0.out.2.size;omega) (by unfold maxLen;omega) (by omega) ?_
    intro ao cap5 w6 hO5 hm5
    have H5:=Lh (aI hO5 (H0.out.2.trans (hm5.below H0.out.2.size (fun k hk=>hk))))
    clear hO5 hm5
    go_wp2_with fail
    exact ⟨⟨j+1,m+1,ao,cap5,by omega,by omega,by go_num,rfl,Lh (by rw [HOP.out,List.length_append,HL.out];rfl),Lh (by rw [HOP.out,dints_append];exact H5.out.1),Lh H5.out.2⟩,by simp [intOf];omega⟩
   ·rw [if_neg h40,List.append_nil] at hop
    have HOP:=Lh hop
    have e40:(xt==[40])=false:=by simpa using h40
    clear hop h40
    go_wp2_with fail
    exact ⟨⟨j+1,m,oa,oc,by omega,by omega,by go_num,rfl,Lh (by rw [HOP.out];exact HL.out),Lh (by rw [HOP.out,<- HW0.out];exact HO.out.below H0.out.1),Lh (by rw [<- HW0.out];exact H0.out.2)⟩,by simp [intOf];omega⟩
  ·have hjn:j=ts.length:=by have:=HN.out;omega
   have ho:=HO.out
   have hll:=HL.out
   rw [hjn,List.take_length] at ho hll
   have D6:=Lh (D5.out.trans (HB.out.mono D5.out.size))
   have E6:=Lh (E5.out.trans (HB.out.mono E5.out.size))
   have B6:=Lh HB.out
   by_cases hm0:m=0
   ·subst hm0
    clear ho hll
    go_wp2_with fail
    go_ret
    exact ⟨rfl,D6.out⟩
   have hm0':((m:Int)==0)=false:=by simp;omega
   obtain ⟨z,hz,hzr⟩:=ho.sl (by rw [dints_widths,dints_length,Nat.mul_one])
   rw [dints_length,hll] at hz
   obtain ⟨rfl,hoc⟩:oa=z.a/\oc=z.cap:=by simp only [SlA.val,Value.slice.injEq] at hz;exact ⟨hz.1,hz.2.2⟩
   subst hoc
   obtain ⟨hza,_,_,_,hzc⟩:=SlIn.ints hzr
   rw [hll] at hza
   obtain ⟨ha1,ha2⟩:=hza (by omega)
   obtain ⟨r,hr⟩:∃ r,r=mn % m:=⟨_,rfl⟩
   have hrl:r<m:=by rw [hr];exact Nat.mod_lt _ (by omega)
   have hrem:((mn:Int).tmod (m:Int))=(r:Int):=by rw [hr];rfl
   have hcell:=hzc r (by rw [hll];exact hrl)
   obtain ⟨kk,t,hkz,hkt,hk40⟩:=openIdx_mem ts 0 _ (List.getElem_mem (l:=openIdx ts 0) (n:=r) (by rw [hll];exact hrl))
   rw [Nat.zero_add] at hkz
   rw [hkz] at hcell
   obtain ⟨e0,hke,hel,hmg,hjn2⟩:=(HLAW.out kk t hkt hk40).2
   have HJN:=Lh hjn2
   have hkl:kk<=100000:=by omega
   have HRD6:=Lh (HRD.out.below HB.out HB.out.size)
   have HMT:=Lh (match_any ts kk va vb vo vc wr HRD6.out (by have:=HN.out;omega) (by omega))
   rw [hmg,<- HN.out] at HMT
   rw [ha1]
   clear hz hzr hzc hkz hkt hk40 hmg hjn2 hr hza ho hll HLAW
   go_wp2_with fail
   refine HMT.out.mono ?_
   rintro e w7 ⟨rfl,hb⟩
   have D7:=Lh (D6.out.trans (hb.mono D6.out.size))
   have E7:=Lh (E6.out.trans (hb.mono E6.out.size))
   have HRD7:=Lh (HRD6.out.below hb hb.size)
   clear hb HMT hcell
   have hneg:decide ((e0:Int)<0)=false:=by simp
   have gx:=HRD7.out.1
   rw [<- HN.out] at gx
   go_wp2_with fail
   go_loopw [15,82] (fun v i wr=>∃ (j m:Nat) (oa:Option Addr) (oc:Nat),j<=n/\m<=j/\i=.int .i64 j/\v=.slice oa m oc/\Hid ((dropIdx (ts.take j) 0 kk e0).length=m)/\Hid (OwnF wr 51 3 w7.heap.size (.slice oa m oc) ((dropIdx (ts.take j) 0 kk e0).map Tok.toD))/\Hid (Below w7.heap.size w7 wr)) (fun _ i _=>n - (intOf i).toNat)
   case atStart=>exact ⟨0,0,none,0,by omega,by omega,rfl,rfl,Lh rfl,Lh (OwnF.nil _ _ _ _),Lh (Below.refl _ _)⟩
   case round =>
    obtain ⟨j,m,oa,oc,hj,hm,rfl,rfl,HL,HO,HB⟩:=hrel
    by_cases hlt:j<n
    ·obtain ⟨hxa,xl⟩:=gx (by omega)
     have hjl:j<ts.length:=by have:=HN.out;omega
     obtain ⟨y0,y1,y2⟩:=HRD7.out.2 j hjl
     rw [placesF_get hjl] at y2
     have hbd:=HB.out
     have x0:=(hbd.cell (p:=⟨vb,vo+j*3,none⟩) xl).trans y0
     have x1:=(hbd.cell (p:=⟨vb,vo+j*3+1,none⟩) xl).trans y1
     have x2:=(hbd.cell (p:=⟨vb,vo+j*3+2,none⟩) xl).trans y2
     have htk:=HOK.out.1 _ (List.getElem_mem hjl)
     have hop:=dropIdx_take (a:=kk) (e:=e0) hjl
     rw [hxa]
     clear y0 y1 y2 hxa hbd
     generalize ts[j]=tk at *
     clear hjl
     obtain ⟨kt,xt,nt⟩:=tk
     have HDS:=Lh (fun (W:World) (F:Nat->Prop)=>Tok.at (w:=W) (F:=F) ⟨kt,xt,nt⟩ htk)
     simp only at x0 x1 x2 HDS
     obtain ⟨W0,hW0⟩:∃ W0,W0=wr.alloc (.cells #[.int .i64 kt,.string ⟨xt.toArray⟩,.int .i64 (nt:Int)] 51):=⟨_,rfl⟩
     have hb0:Below wr.heap.size wr W0:=by rw [hW0];exact below_new _ _
     have H0:=Lh (aI hb0 (HB.out.trans (hb0.mono HB.out.size)))
     have HW0:=Lh hW0
     clear htk hb0 hW0
     by_cases hja:j=kk
     ·subst hja
      rw [if_neg (by omega),List.append_nil] at hop
      have HOP:=Lh hop
      clear hop
      go_wp2_with fail
      exact ⟨⟨j+1,m,oa,oc,by omega,by omega,by go_num,rfl,Lh (by rw [HOP.out];exact HL.out),Lh (by rw [HOP.out,<- HW0.out];exact HO.out.below H0.out.1),Lh (by rw [<- HW0.out];exact H0.out.2)⟩,by simp [intOf];omega⟩
     have hja':((j:Int) != (kk:Int))=true:=by simp;omega
     have hja2:((j:Int)==(kk:Int))=false:=by simp;omega
     by_cases hje:j=e0
     ·subst hje
      rw [if_neg (by omega),List.append_nil] at hop
      have HOP:=Lh hop
      clear hop
      go_wp2_with fail
      exact ⟨⟨j+1,m,oa,oc,by omega,by omega,by go_num,rfl,Lh (by rw [HOP.out];exact HL.out),Lh (by rw [HOP.out,<- HW0.out];exact HO.out.below H0.out.1),Lh (by rw [<- HW0.out];exact H0.out.2)⟩,by simp [intOf];omega⟩
     have hje':((j:Int) != (e0:Int))=true:=by simp;omega
     have hje2:((j:Int)==(e0:Int))=false:=by simp;omega
     rw [if_pos ⟨hja,hje⟩] at hop
     have HOP:=Lh hop
     clear hop
     go_wp2_with (with_reducible refine wpList_row ?_)
     rw [<- HW0.out]
     unfold Hold
     refine wpList_step fun K hK=>?_
     rw [if_pos (by kernel_rfl)]
     go_simp
     refine hK _ _ ?_
     clear hK K
     try simp only [Act.put,List.setIfInBounds_toArray,List.set_cons_zero,List.set_cons_succ]
     refine wpList_append_F (W0:=W0) (B:=W0.heap.size) rfl rfl _ _ 47 rfl 51 j0 _ 3 32 Tryz.underlying47 ji jz0 jz1 jz2 rfl (by decide) (.slice oa m oc) ((dropIdx (ts.take j) 0 kk e0).map Tok.toD) m (by rw [List.length_map];exact HL.out) (Tok.toD ⟨kt,xt,nt⟩) [.int .i64 kt,.string ⟨xt.toArray⟩,.int .i64 (nt:Int)] _ rfl rfl (HO.out.below H0.out.1) (HDS.out _ _) rfl (by have:=H0.out.2.size;omega) (by unfold maxLen;omega) (by omega) ?_
     intro ao cap5 w8 hO5 hm5
     have H5:=Lh (aI hO5 (H0.out.2.trans (hm5.below H0.out.2.size (fun k hk=>hk))))
     clear hO5 hm5
     go_wp2_with fail
     exact ⟨⟨j+1,m+1,ao,cap5,by omega,by omega,by go_num,rfl,Lh (by rw [HOP.out,List.length_append,HL.out];rfl),Lh (by rw [HOP.out,List.map_append];exact H5.out.1),Lh H5.out.2⟩,by simp [intOf];omega⟩
    ·have hjn:j=ts.length:=by have:=HN.out;omega
     have ho:=HO.out
     have hll:=HL.out
     rw [hjn,List.take_length] at ho hll
     have D8:=Lh (D7.out.trans (HB.out.mono D7.out.size))
     have E8:=Lh (E7.out.trans (HB.out.mono E7.out.size))
     obtain ⟨L,hL⟩:∃ L,L=dropIdx ts 0 kk e0:=⟨_,rfl⟩
     rw [<- hL] at ho hll
     obtain ⟨q1,hq1,_⟩:=ho.own
     obtain ⟨la,lb,lo,lc,hle,hlr,hlc⟩:=OwnT.read (ts:=L) hq1
     obtain ⟨rfl,hmm,hoc⟩:oa=la/\m=L.length/\oc=lc:=by simpa using hle
     subst hmm
     subst hoc
     have hmem:∀ t∈L,t∈ts:=fun t ht=>by rw [hL] at ht;exact dropIdx_mem _ _ _ _ _ ht
     have hLn:L.length<=16385:=by omega
     have HJ:=Lh (join_any L (placesF L) oa lb lo oc wr hlr hlc (fun t ht=>(HOK.out.1 t (hmem t ht)).2.2.1) (HGA.out wr D8.out) (by omega) (few_spaced hLn (fun t ht=>HOK.out.2 t (hmem t ht))))
     have hjn3:=HJN.out
     rw [<- hL] at hjn3
     have HJN:=Lh hjn3
     clear hjn3 ho hll hle hlr hlc hmem hL hq1
     go_wp2_with fail
     refine HJ.out.mono ?_
     rintro e w9 ⟨v9,rfl,hv9,hb⟩
     have D9:=Lh (D8.out.trans (hb.mono D8.out.size))
     have E9:=Lh (E8.out.trans (hb.mono E8.out.size))
     clear hb HJ
     obtain ⟨jb,je,hje3⟩:∃ jb je,joinF L=(jb,je):=⟨_,_,rfl⟩
     have hjn3:=HJN.out
     rw [hje3] at hv9 hjn3 ⊢
     simp only at hv9 hjn3 ⊢
     clear HJN hje3
     obtain ⟨a9,b9,o9,c9,rfl,hsb9,hcp9⟩:=hv9
     rcases hjn3 with hj2 | ⟨hj0,hsyn⟩
     ·subst hj2
      clear hsb9 hcp9
      go_wp2_with fail
      go_ret
      exact ⟨rfl,D9.out⟩
     subst hj0
     have HF2:=Lh (HFM.out jb a9 b9 o9 c9 w9 D9.out hsb9 hcp9)
     obtain ⟨nj,hnj⟩:∃ nj,nj=jb.length:=⟨_,rfl⟩
     rw [<- hnj] at HF2 ⊢
     have HSY:=Lh hsyn
     clear hsb9 hcp9 hnj hsyn
     go_wp2_with fail
     refine HF2.out.mono ?_
     rintro e w10 ⟨hb,hr⟩
     have D10:=Lh (D9.out.trans (hb.mono D9.out.size))
     have E10:=Lh (E9.out.trans (hb.mono E9.out.size))
     rcases hr with ⟨g,y,hs,rfl,hy⟩ | ⟨n',c,hs,rfl⟩
     rotate_left
     ·have hc:c ≠ 0:=synForm_none hs
      have hc2:(c==0)=false:=by simpa using hc
      have hc3:(c != 0)=true:=by simpa using hc
      clear hs hb
      have hb:=Lh (fun (o:Obj)=>D10.out.trans ((below_new w10 o).mono D10.out.size))
      go_wp2_with fail
      go_ret
      exact ⟨rfl,hb.out _⟩
     have hgf:g ≠ f:=by
      have hsyn:=HSY.out
      rw [hs] at hsyn
      rcases hsyn with h | h
      ·exact absurd rfl h
      ·intro h2;exact h (by rw [h2])
     have hfit:=synForm_fit hs
     have hsame:frmEq g f=false:=by
      cases h:frmEq g f
      ·rfl
      ·exact absurd ((frmEq_iff g f).1 h) hgf
     have HY:=Lh (hy.mono (fun k hk=>hk.2))
     clear hb hs hy HF2 HSY hgf
     obtain ⟨B5,hB5⟩:∃ B5,B5=w10.heap.size:=⟨_,rfl⟩
     obtain ⟨w11,hw11⟩:∃ w11,w11=w10.alloc (.cells #[.int .i64 g.kind,.string ⟨g.name.toArray⟩,.int .i64 g.n,.slice y.t.a g.terms.length y.t.cap,.slice y.b.a g.binds.length y.b.cap,.slice y.l.a g.l.length y.l.cap] 28):=⟨_,rfl⟩
     have hb:Below w10.heap.size w10 w11:=by rw [hw11];exact below_new _ _
     have hx:w11.heap[B5]?=some (.cells #[.int .i64 g.kind,.string ⟨g.name.toArray⟩,.int .i64 g.n,.slice y.t.a g.terms.length y.t.cap,.slice y.b.a g.binds.length y.b.cap,.slice y.l.a g.l.length y.l.cap] 28 (0,0)):=by rw [hw11,hB5];exact heap_alloc_new _ _
     have KB5:=Lh hx
     have HBB5:=Lh hB5
     have HW11:=Lh hw11
     have D11:=Lh (D10.out.trans (hb.mono D10.out.size))
     have E11:=Lh (E10.out.trans (hb.mono E10.out.size))
     have Q11:=Lh (Below.refl w11.heap.size w11)
     have HY11:=Lh (HY.out.later hb hb.size)
     clear hx hb hw11 hB5
     have kB1:=(E11.out.block B1 (gS KB1.out).1).trans KB1.out
     have p0:w11.cell? ⟨B1,0,none⟩=some (.int .i64 f.kind):=cH kB1 rfl
     have p1:w11.cell? ⟨B1,1,none⟩=some (.string ⟨f.name.toArray⟩):=cH kB1 rfl
     have p2:w11.cell? ⟨B1,2,none⟩=some (.int .i64 f.n):=cH kB1 rfl
     have p3:w11.cell? ⟨B1,3,none⟩=some (.slice x.t.a f.terms.length x.t.cap):=cH kB1 rfl
     have p4:w11.cell? ⟨B1,4,none⟩=some (.slice x.b.a f.binds.length x.b.cap):=cH kB1 rfl
     have p5:w11.cell? ⟨B1,5,none⟩=some (.slice x.l.a f.l.length x.l.cap):=cH kB1 rfl
     clear kB1
     have kB5:=(Q11.out.block B5 (gS KB5.out).1).trans KB5.out
     have q0:w11.cell? ⟨B5,0,none⟩=some (.int .i64 g.kind):=cH kB5 rfl
     have q1:w11.cell? ⟨B5,1,none⟩=some (.string ⟨g.name.toArray⟩):=cH kB5 rfl
     have q2:w11.cell? ⟨B5,2,none⟩=some (.int .i64 g.n):=cH kB5 rfl
     have q3:w11.cell? ⟨B5,3,none⟩=some (.slice y.t.a g.terms.length y.t.cap):=cH kB5 rfl
     have q4:w11.cell? ⟨B5,4,none⟩=some (.slice y.b.a g.binds.length y.b.cap):=cH kB5 rfl
     have q5:w11.cell? ⟨B5,5,none⟩=some (.slice y.l.a g.l.length y.l.cap):=cH kB5 rfl
     clear kB5
     have hl10:=(gS ((E10.out.block B1 (gS KB1.out).1).trans KB1.out)).1
     have kB1:=(E10.out.block B1 (gS KB1.out).1).trans KB1.out
     have r0:w10.cell? ⟨B1,0,none⟩=some (.int .i64 f.kind):=cH kB1 rfl
     have r1:w10.cell? ⟨B1,1,none⟩=some (.string ⟨f.name.toArray⟩):=cH kB1 rfl
     have r2:w10.cell? ⟨B1,2,none⟩=some (.int .i64 f.n):=cH kB1 rfl
     have r3:w10.cell? ⟨B1,3,none⟩=some (.slice x.t.a f.terms.length x.t.cap):=cH kB1 rfl
     have r4:w10.cell? ⟨B1,4,none⟩=some (.slice x.b.a f.binds.length x.b.cap):=cH kB1 rfl
     have r5:w10.cell? ⟨B1,5,none⟩=some (.slice x.l.a f.l.length x.l.cap):=cH kB1 rfl
     clear kB1
     have HSM:=Lh (fsame_any _ g f w11 (Nat.le_refl _) hfit y x (HY11.out) (HF.out.1.later D11.out D11.out.size))
     rw [hsame] at HSM
     simp only [FrmA.cells,SlA.val] at HSM
     go_wp2_with fail
     rw [<- HW11.out,<- HBB5.out]
     refine HSM.out.mono ?_
     rintro e w12 ⟨rfl,hb⟩
     have D12:=Lh (D11.out.trans (hb.mono D11.out.size))
     have E12:=Lh (E11.out.trans (hb.mono E11.out.size))
     have Q12:=Lh (Q11.out.trans (hb.mono Q11.out.size))
     clear hb HSM hl10
     clear r0 r1 r2 r3 r4 r5
     clear p0 p1 p2 p3 p4 p5
     clear q0 q1 q2 q3 q4 q5
     go_wp2_with fail
     go_ret
     exact ⟨rfl,D12.out⟩
end Go.Proofs.YtpmalchlecnjbaaGreatDoor
