/- Joined texts: EvE, EvF, GMk, GPl, GRows, GEachP, GEachQ, GKids. -/
import Derived.Test.YtjjkfgjnadaheaaGreatDoorLGGate18
import Derived.Test.YtjjkfgjnadaheaaGreatDoorLGGate3
import Derived.Laws.MakeOwn
import Derived.Sort.LoopGhostIn
import Derived.Sort.QuietIn
import Derived.Deep.AppendLies
import Derived.Deep.RegionLaw
import Derived.Test.YtjjkfgjnadaheaaGreatDoorG10
import Derived.Test.YtjjkfgjnadaheaaGreatDoorG15
import Derived.Deep.RegionHeld3
import Derived.Test.YtjjkfgjnadaheaaGreatDoorLGGate9
import Derived.Stop.RegionWithIn
import Derived.Test.YtjjkfgjnadaheaaGreatDoorLGGate13
set_option maxHeartbeats 4000000
set_option maxRecDepth 100000
set_option linter.unusedVariables false
set_option linter.unusedSimpArgs false
/- eval.tuples: the iterator. -/
namespace Go.Chalk
open Go.RowKit
theorem prod_zero:∀ l:List Nat,0∈l->l.prod=0
 | x :: r,h=>by
  rw [List.prod_cons]
  rcases List.mem_cons.1 h with h | h
  ·rw [<- h,Nat.zero_mul]
  ·rw [prod_zero r h,Nat.mul_zero]
theorem tup_zero {ts:List Nat} {q n:Nat} (hn:ts.length=n) (hq:q<n):(ts.take (q+1)++List.replicate (n - (q+1)) 0).set q 0=ts.take q++List.replicate (n - q) 0:=by
 rw [List.take_succ_eq_append_getElem (by omega),show n - q=(n - (q+1))+1 from by omega,List.replicate_succ,List.append_assoc,List.set_append_right _ _ (by simp;omega)]
 simp [show q - min q ts.length=0 from by omega]
theorem tup_up {ts:List Nat} {q n u:Nat} (hn:ts.length=n) (hq:q<n):(ts.take (q+1)++List.replicate (n - (q+1)) 0).set q u=ts.take q++[u]++List.replicate (n - 1 - q) 0:=by
 rw [List.take_succ_eq_append_getElem (by omega),List.append_assoc,List.set_append_right _ _ (by simp;omega)]
 simp [show q - min q ts.length=0 from by omega,show n - 1 - q=n - (q+1) from by omega]
theorem tup_get {ts:List Nat} {q n:Nat} (hn:ts.length=n) (hq:q<n) (h:q<(ts.take (q+1)++List.replicate (n - (q+1)) 0).length):(ts.take (q+1)++List.replicate (n - (q+1)) 0)[q]=ts[q]'(by omega):=by
 rw [List.getElem_append_left (by simp;omega)];simp
def TB (T:TypeId) (W:World) (b:Nat) (ts:List Nat):Prop:=W.heap[b]?=some (.cells (ts.map (fun (n:Nat)=>Value.int .i64 n)).toArray T (0,0))
theorem TB.cell {T:TypeId} {W:World} {b:Nat} {ts:List Nat} (h:TB T W b ts) (i:Nat) (hi:i<ts.length):W.cell? ⟨b,i,none⟩=some (.int .i64 ts[i]):=cH h (by simp [hi])
theorem TB.store {T:TypeId} {W:World} {b:Nat} {ts:List Nat} (h:TB T W b ts) (i m:Nat):TB T (W.setCell ⟨b,i,none⟩ (.int .i64 m)) b (ts.set i m):=by
 unfold TB
 rw [box_store _ h]
 simp [List.map_set]
theorem TB.sl {T:TypeId} {W:World} {F:Nat->Prop} {b:Nat} {ts:List Nat} (h:TB T W b ts) (hF:F b) (hl:ts.length<=maxLen) (hk:∀ k∈ts,k<=2000000):SlIn W F (dints (nats ts)) ⟨some ⟨b,0,none⟩,b,0,ts.length⟩:=by
 have hcs:(nats ts).map (Value.int .i64)=ts.map (fun (n:Nat)=>Value.int .i64 n):=by simp [nats]
 refine SlIn.lit (cs:=(nats ts).map (Value.int .i64)) (by rw [hcs];exact h) (DsAt.ints (fun z hz=>?_)) hF (by simp) hl
 unfold nats at hz
 obtain ⟨k,hk1,rfl⟩:=List.mem_map.1 hz
 have:=hk k hk1
 constructor <;> omega
def tupE (sz:List Nat) (i:Nat) (v:Array Value) (S:Nat->Prop) (W:World):Prop :=
 ∃ x:SlA,v=#[x.val sz.length]/\SlIn W S (dints (nats ((tuplesF sz)[i]?.getD []))) x
structure TuB (T0:TypeId) (J:Nat->(Nat->Prop)->World->Prop) (T T1:Nat->Prop) (W Wr:World) (j tb:Nat) (ts:List Nat):Prop where
 ext:Ext T T1 W Wr
 mod:Mod T W Wr
 inv:J j T1 Wr
 nt:¬ T1 tb
 ge:W.heap.size<=tb
 box:TB T0 Wr tb ts
theorem TuB.lt {T0:TypeId} {J:Nat->(Nat->Prop)->World->Prop} {T T1:Nat->Prop} {W Wr:World} {j tb:Nat} {ts:List Nat} (h:TuB T0 J T T1 W Wr j tb ts) (hT:∀ k,T k->k<W.heap.size):∀ k,T1 k->k<Wr.heap.size:=h.ext.lt h.mod.size hT
theorem TuB.own {T0:TypeId} {J:Nat->(Nat->Prop)->World->Prop} {T T1:Nat->Prop} {W Wr W':World} {j tb:Nat} {ts ts':List Nat} (h:TuB T0 J T T1 W Wr j tb ts) (hJ:Stab W.heap.size J) (hm:Mod (fun k=>k=tb) Wr W') (hb:TB T0 W' tb ts'):TuB T0 J T T1 W W' j tb ts':=by
 have hs:=h.mod.size
 refine ⟨fun k hk=>?_,h.mod.trans hm (fun k hk e=>by have:=h.ge;omega),hJ _ _ _ _ _ h.inv hm (fun k hk=>by subst hk;exact ⟨h.ge,h.nt⟩),h.nt,h.ge,hb⟩
 rcases h.ext k hk with g | g
 ·exact .inl g
 ·exact .inr ⟨g.1,by have:=hm.size;omega⟩
theorem TuB.round {T0:TypeId} {J J2:Nat->(Nat->Prop)->World->Prop} {T T1 T2 S:Nat->Prop} {W Wr W2:World} {j j2 tb:Nat} {ts:List Nat} (h:TuB T0 J T T1 W Wr j tb ts) (hS:∀ k,S k->W.heap.size<=k/\k<Wr.heap.size/\k ≠ tb) (he:Ext (fun k=>T1 k∨S k) T2 Wr W2) (hm:Mod (fun k=>T1 k∨S k) Wr W2) (hj:J2 j2 T2 W2):TuB T0 J2 T T2 W W2 j2 tb ts:=by
 have hs:=h.mod.size
 have hlt:tb<Wr.heap.size:=(gS h.box).1
 have hn:¬ (T1 tb∨S tb):=fun g=>by
  rcases g with g | g
  ·exact h.nt g
  ·exact (hS _ g).2.2 rfl
 have hE:Ext T (fun k=>T1 k∨S k) W Wr:=fun k hk=>by
  rcases hk with g | g
  ·exact h.ext k g
  ·exact .inr ⟨(hS k g).1,(hS k g).2.1⟩
 exact ⟨hE.trans he hs hm.size,h.mod.ext hm hE,hj,he.not hlt hn,h.ge,heap_kept h.box hm hn⟩
end Go.Chalk
namespace Go.Proofs.YtjjkfgjnadaheaaGreatDoor
open Go.RowKit Go.Chalk
attribute [local go_sem] Oper.semAt_some
theorem make_ints (n:Nat) (hn:n<=2000000) (W:World):(Instr.makeSlice 90 (.int .i64 (n:Int)) (.int .i64 (n:Int))).run Tryz.prog W=.ok (.slice (some ⟨W.heap.size,0,none⟩) n n) (W.alloc (.cells ((List.replicate n 0).map (fun (n:Nat)=>Value.int .i64 n)).toArray 3)):=by
 obtain ⟨i0,hi,hz0,hz1,hz2⟩:=info_parts infoInt
 have:=run_makeSlice (P:=Tryz.prog) W 90 3 i0 _ Tryz.underlying90 hi hz0 .i64 .i64 n n (by omega) (Int.le_refl _) (by rw [hz1];omega) (by rw [hz2];omega) (by omega)
 have hm:madeCells (Value.int .i64 0).cells ((n:Int).toNat*1)=((List.replicate n 0).map (fun (n:Nat)=>Value.int .i64 n)).toArray:=by
  apply Array.ext
  ·rw [size_madeCells];simp
  ·intro i h1 h2
   simp [madeCells,Value.cells]
   rw [Nat.mod_one];rfl
 rw [this,hz1,hm,Int.toNat_natCast]

theorem tuples1_iter (sz:List Nat) (xs:SlA) (la:Option Addr) (lcap:Nat) (w:World) (sb lb:Nat) (F:Nat->Prop) (hs:SlIn w F (dints (nats sz)) xs)
  (h1:w.heap[sb]?=some (.cells #[.slice xs.a sz.length xs.cap] 90 (0,0))) (h2:w.heap[lb]?=some (.cells #[.slice la sz.length lcap] 31 (0,0))) (hmax:sz.length<=2000000) (hszm:∀ k∈sz,k<=2000000) :
  IterV Tryz.prog 181 #[.pointer (some ⟨sb,0,none⟩),.pointer (some ⟨lb,0,none⟩)] (tuplesF sz).length 1 (tupE sz) (fun k=>F k∨k=sb∨k=lb) w:=by
 intro l J Jx T W hAg hD hT hJ hJx hY h0
 have q1:W.cell? ⟨sb,0,none⟩=some (.slice xs.a sz.length xs.cap):=cH ((hAg sb (.inr (.inl rfl))).trans h1) rfl
 have q2:W.cell? ⟨lb,0,none⟩=some (.slice la sz.length lcap):=cH ((hAg lb (.inr (.inr rfl))).trans h2) rfl
 have hsW:SlIn W F (dints (nats sz)) xs:=hs.agree (hAg.mono (fun k hk=>.inl hk))
 have hCT:=contains_ints (nats sz) xs 0 W (hsW.mono (fun k hk=>(hD k (.inl hk)).1)) (by simpa using hmax)
 rw [nats_length] at hCT
 have hc0:(nats sz).contains 0=sz.contains 0:=by
  rw [Bool.eq_iff_iff,List.contains_iff_mem,List.contains_iff_mem];unfold nats;simp
 rw [hc0] at hCT
 have HY:=Lh hY
 have HJ:=Lh hJ
 have HJX:=Lh hJx
 have HD:=Lh hD
 have HT:=Lh hT
 have HCT:=Lh hCT
 have HS:=Lh hsW
 have H0:=Lh h0
 have HZ:=Lh hszm
 have hmk:=make_ints sz.length hmax
 have HQ:=Lh (aI q1 q2)
 clear hY hJ hJx hD hT hAg h0 hs h1 h2 hsW hCT hszm hc0
 show Calls Tryz.prog 181 #[.func (.yield l) #[] #[],.pointer (some ⟨sb,0,none⟩),.pointer (some ⟨lb,0,none⟩)] W _
 refine (callsIn_wide (n:=0)).1 (callsIn_of_wp Tryz.func181 rfl trivial ?_ rfl)
 simp only [Tryz.ntmps181,List.size_toArray,List.length_cons,List.length_nil,Nat.reduceAdd,Nat.reduceSub,Array.replicate_succ,Array.replicate_zero,List.push_toArray,List.append_toArray,List.nil_append,List.cons_append]
 gi_wp2_with fail
 refine ⟨trivial,rfl,(callsIn_wide.2 HCT.out).mono ?_⟩
 rintro e w' ⟨rfl,rfl⟩
 cases hz:sz.contains 0
 rotate_left
 ·have hnil:(tuplesF sz).length=0:=by
   rw [tuples_length]
   rw [List.contains_iff_mem] at hz
   exact prod_zero _ hz
  have HN:=Lh hnil
  clear hz hnil hmk
  gi_wp2_with fail
  go_end0
  exact ⟨⟨_,rfl⟩,T,Ext.refl _ _ _,Chalk.Mod.refl _ _,.inl (by rw [HN.out];exact H0.out)⟩
 ·have hpos:∀ k∈sz,0<k:=fun k hk=>by
   rcases Nat.eq_zero_or_pos k with h | h
   ·subst h;rw [List.contains_iff_mem.2 hk] at hz;cases hz
   ·exact h
  have HP:=Lh hpos
  have hnb:Below W.heap.size W (W.alloc (.cells ((List.replicate sz.length 0).map (fun (n:Nat)=>Value.int .i64 n)).toArray 3)):=(Below.refl _ _).alloc (Nat.le_refl _) _
  have R0:TuB 3 J T T W (W.alloc (.cells ((List.replicate sz.length 0).map (fun (n:Nat)=>Value.int .i64 n)).toArray 3)) 0 W.heap.size (List.replicate sz.length 0) :=
   ⟨Ext.refl _ _ _,Chalk.Mod.of_below hnb,HJ.out _ _ _ _ _ H0.out (Chalk.Mod.of_below (S:=fun _=>False) hnb) (fun _ h=>h.elim),fun h=>by have:=HT.out _ h;omega,Nat.le_refl _,boxed (B:=W.heap.size+1) (Below.refl _ _) (by omega)⟩
  have HR0:=Lh (aI R0 (tuples_first sz hpos))
  clear hz hpos hnb R0 H0
  gi_wp2_with fail
  gi_loopg [] (tuplesF sz).length (fun k wr=>∃ (j:Nat) (T1:Nat->Prop) (ts:List Nat),k+j=(tuplesF sz).length/\Hid (TuB 3 J T T1 W wr j W.heap.size ts/\(tuplesF sz)[j]?=some ts))
  case atStart =>
   refine ⟨0,T,List.replicate sz.length 0,by omega,Lh ?_⟩
   have:=HR0.out
   simpa using this
  case round =>
   obtain ⟨j,T1,ts,hkj,HR⟩:=hrel
   clear HR0
   obtain ⟨hjl,htj⟩:=List.getElem?_eq_some_iff.1 HR.out.2
   have hmem:=(tuples_mem sz ts).1 (htj ▸ List.getElem_mem hjl)
   have hle:∀ k∈ts,k<=2000000:=fun k hk=>by
    obtain ⟨i,hi,rfl⟩:=List.mem_iff_getElem.1 hk
    have:=hmem.2 i hi (by omega)
    have:=HZ.out _ (List.getElem_mem (show i<sz.length by omega))
    omega
   have hsl:=HR.out.1.box.sl (F:=(·<wr.heap.size)) (gS HR.out.1.box).1 (by unfold maxLen;omega) hle
   have hcl:=clone_Int (nats ts) _ wr hsl (by rw [nats_length];omega)
   have HCL:=Lh hcl
   have HMM:=Lh (aI hmem hle)
   have HJL:=Lh (aI hjl hkj)
   have htl:ts.length=sz.length:=hmem.1
   simp only [SlA.val,nats_length,htl] at HCL
   have HTL:=Lh htl
   clear hmem hle hsl hcl hjl htj hkj htl
   gi_wp2_with fail
   refine ⟨trivial,rfl,(callsIn_wide.2 HCL.out).mono ?_⟩
   rintro e w1 ⟨v,r,rfl,hown,hnew,hb⟩
   obtain ⟨xc,hv,hxc⟩:=hown.sl (G:=fun k=>r=some k) (fun _ h=>h.elim) (fun k hk=>hk) (by rw [widths_map Int.flatT];simp)
   simp only [List.length_map,nats_length,HTL.out] at hv
   subst hv
   have hSS:∀ k,r=some k->W.heap.size<=k/\k<w1.heap.size/\¬ T1 k:=fun k hk=>by
    have h1:=hnew k hk
    have h2:=HR.out.1.mod.size
    exact ⟨by omega,hown.row_lt hk,fun h=>by have:=HR.out.1.lt HT.out k h;omega⟩
   have hS2:∀ k,r=some k->W.heap.size<=k/\k<w1.heap.size/\k ≠ W.heap.size:=fun k hk=>by
    have h1:=hnew k hk
    have h2:=(gS HR.out.1.box).1
    exact ⟨(hSS k hk).1,(hSS k hk).2.1,by omega⟩
   have R1:TuB 3 J T T1 W w1 j W.heap.size ts:=HR.out.1.own HJ.out (Chalk.Mod.of_below hb) ((hb.block _ (gS HR.out.1.box).1).trans HR.out.1.box)
   have hE:tupE sz j #[.slice xc.a sz.length xc.cap] (fun k=>r=some k) w1:=⟨xc,rfl,by rw [HR.out.2];exact hxc⟩
   obtain ⟨fn,tmps,assign,body,hy,hRd⟩:=HY.out j T1 w1 #[.slice xc.a sz.length xc.cap] (fun k=>r=some k) HJL.out.1 R1.inv (R1.lt HT.out) hSS hE rfl
   have HRR:=Lh hRd
   have HR1:=Lh (aI R1 hS2)
   have hnx:=tuples_next sz HP.out j ts HR.out.2
   have HNX:=Lh hnx
   clear hRd R1 hSS hS2 hE hb hnew hown hxc hnx
   simp only [SlA.val]
   gi_wp2_with fail
   refine ⟨rfl,HRR.out.mono ?_⟩
   rintro e W2 ⟨T2,he,hm,⟨rfl,hj2⟩ | ⟨rfl,hj2⟩⟩
   rotate_left
   ·have HR2:=Lh (HR1.out.1.round HR1.out.2 he hm hj2)
    clear he hm hj2 hy
    gi_wp2_with fail
    go_end0
    exact ⟨⟨_,rfl⟩,T2,HR2.out.ext,HR2.out.mod,.inr ⟨j+1,by omega,by have:=HJL.out.1;omega,HR2.out.inv⟩⟩
   ·have HR2:=Lh (HR1.out.1.round HR1.out.2 he hm hj2)
    clear he hm hj2 hy HRR
    gi_wp2_with fail
    gi_loopg [5] sz.length (fun k s5 wr2=>s5=.int .i64 ((k:Int) - 1)/\k<=sz.length/\Hid (TuB 3 J T T2 W wr2 (j+1) W.heap.size (ts.take k++List.replicate (sz.length - k) 0))/\Hid (∀ (q:Nat) (h:q<sz.length) (h':q<ts.length),k<=q->ts[q]+1=sz[q]))
    case atStart =>
     refine ⟨by go_num,Nat.le_refl _,Lh ?_,Lh (fun q h h' hk=>by omega)⟩
     rw [Nat.sub_self,List.replicate_zero,List.append_nil,List.take_of_length_le (by have:=HTL.out;omega)]
     exact HR2.out
    case round =>
     obtain ⟨rfl,hkn,HI,HQ2⟩:=hrel
     have hsb:wr.heap[sb]?=W.heap[sb]?:=HI.out.mod.block _ (HD.out sb (.inr (.inl rfl))).1 (HD.out sb (.inr (.inl rfl))).2
     have s1:wr.cell? ⟨sb,0,none⟩=some (.slice xs.a sz.length xs.cap):=(World.cell?_of_block (w:=W) hsb).trans HQ.out.1
     cases gk with
     | zero =>
      have hnone:nextT sz ts=none:=nextT_none sz ts HTL.out.symm (fun p h h'=>HQ2.out p h h' (Nat.zero_le _))
      have HE:Hid (j+1=(tuplesF sz).length):=Lh (by
       have h1:=HNX.out
       rw [hnone] at h1
       have:=List.getElem?_eq_none_iff.1 h1
       have:=HJL.out.1
       omega)
      clear hnone hsb
      gi_wp2_with fail
      gi_quiet (fail)
      gi_wp2_with fail
      go_end0
      have R:=HI.out.own (W':=wr.drewN nq) HJ.out ⟨rfl,rfl,rfl,Nat.le_refl _,fun _ _ _=>rfl⟩ HI.out.box
      refine ⟨⟨_,rfl⟩,T2,R.ext,R.mod,.inl ?_⟩
      rw [<- HE.out];exact R.inv
     | succ q =>
      have hqs:q<sz.length:=by omega
      have hqi:(((q+1:Nat):Int) - 1)=(q:Int):=by omega
      rw [hqi]
      have hqn:(q:Int)<(sz.length:Int):=by omega
      have htq:q<ts.length:=by have:=HTL.out;omega
      have hlen:(ts.take (q+1)++List.replicate (sz.length - (q+1)) 0).length=sz.length:=by have:=HTL.out;simp;omega
      have c0:wr.cell? ⟨W.heap.size,q,none⟩=some (.int .i64 (ts[q]:Nat)):=by
       have:=HI.out.box.cell q (by rw [hlen];omega)
       rw [tup_get HTL.out (by omega)] at this
       exact this
      obtain ⟨k1,_,_,_,k5⟩:=HS.out.ints
      rw [nats_length] at k1
      obtain ⟨hxa,hFb⟩:=k1 (by omega)
      have hxb:wr.heap[xs.b]?=W.heap[xs.b]?:=HI.out.mod.block _ (HD.out _ (.inl hFb)).1 (HD.out _ (.inl hFb)).2
      have c1:=(World.cell?_of_block (w:=W) (a:=⟨xs.b,xs.o+q,none⟩) hxb).trans (k5 q (by rw [nats_length];omega))
      rw [show (nats sz)[q]'(by rw [nats_length];omega)=(sz[q]'hqs:Int) from by simp [nats]] at c1
      rw [hxa] at s1
      have hub:ts[q]<=2000000:=HMM.out.2 _ (List.getElem_mem htq)
      have hfz:wr.frozen? ⟨W.heap.size,q,none⟩=false:=fH HI.out.box
      clear hqi hsb k1 k5 hFb hxb hxa hlen
      by_cases hd:ts[q]+1=sz[q]'hqs
      ·have HQ3:Hid (∀ (p:Nat) (h:p<sz.length) (h':p<ts.length),q<=p->ts[p]+1=sz[p]):=Lh (fun p h h' hqp=>by
        by_cases hpq:p=q
        ·subst hpq;exact hd
        ·exact HQ2.out p h h' (by omega))
       rw [<- hd] at c1
       generalize ts[q]=u at c0 c1 hub
       clear hd
       gi_wp2_with fail
       gi_quiet (fail)
       gi_wp2_with fail
       gi_roundg q
       case measure=>omega
       case rel =>
        refine ⟨by go_num,by omega,Lh ?_,HQ3⟩
        have hm1:Chalk.Mod (fun k=>k=W.heap.size) wr (wr.drewN nq):=⟨rfl,rfl,rfl,Nat.le_refl _,fun _ _ _=>rfl⟩
        refine HI.out.own HJ.out (hm1.setCell (p:=⟨W.heap.size,q,none⟩) (fun _=>rfl) _) ?_
        rw [<- tup_zero HTL.out (by omega)]
        exact TB.store (W:=wr.drewN nq) HI.out.box q 0
      ·have hnt:=nextT_at sz ts q hqs htq HTL.out.symm hd (fun p h h' hqp=>HQ2.out p h h' (by omega))
       have HN2:=Lh (HNX.out.trans hnt)
       obtain ⟨u,hu⟩:∃ u,u=ts[q]:=⟨_,rfl⟩
       obtain ⟨v,hv⟩:∃ v,v=sz[q]'hqs:=⟨_,rfl⟩
       have hne:((u:Int)+1==(v:Int))=false:=by rw [hu,hv];simp;omega
       have HU:=Lh hu
       rw [<- hu] at c0 hub
       rw [<- hv] at c1
       clear hd hnt hu hv
       gi_wp2_with fail
       gi_quiet (fail)
       gi_wp2_with fail
       gi_roundg ((tuplesF sz).length - (j+1))
       case measure=>have:=HJL.out;omega
       case rel =>
        have hm1:Chalk.Mod (fun k=>k=W.heap.size) wr (wr.drewN nq):=⟨rfl,rfl,rfl,Nat.le_refl _,fun _ _ _=>rfl⟩
        refine ⟨j+1,T2,ts.take q++[u+1]++List.replicate (sz.length - 1 - q) 0,by have:=HJL.out;omega,Lh ⟨?_,?_⟩⟩
        ·refine HI.out.own HJ.out (hm1.setCell (p:=⟨W.heap.size,q,none⟩) (fun _=>rfl) _) ?_
         rw [<- tup_up HTL.out (by omega)]
         have:=TB.store (W:=wr.drewN nq) HI.out.box q (u+1)
         simpa using this
        ·rw [HN2.out,HU.out,HTL.out]
end Go.Proofs.YtjjkfgjnadaheaaGreatDoor
/- eval: tuples, with. -/
namespace Go.Chalk
open Go.RowKit
theorem IterV.mono {P:Program} {g:Nat} {lb:Array Value} {m sz:Nat} {E:Nat->Array Value->(Nat->Prop)->World->Prop} {D D':Nat->Prop} {w w':World} (h:IterV P g lb m sz E D w) (ha:Agree D w w') (hD:∀ k,D k->D' k):IterV P g lb m sz E D' w':=by
 intro l J Jx T W h1 h2 h3 h4 h5 h6 h7
 exact h l J Jx T W (ha.trans (h1.mono hD)) (fun k hk=>h2 k (hD k hk)) h3 h4 h5 h6 h7
variable {P:Program}
theorem wp_append_oneO {W0:World} {B:Nat} (hB:W0.heap.size=B) {lo:Nat} {F:Nat->Prop} {o:Oper} {a:Act} {K:Act->World->Prop} {Q:Exit->Act->World->Prop} (s x:Operand) (t:TypeId)
  (ho:o.op=.call { callee:=.builtin .append,args:=#[s,x],argTypes:=#[t,t] }) (e:TypeId) (i:TypeInfo) (z:Value) (size bytes:Nat) (ht:P.underlying t=some (.slice e)) (hi:P.info? e=some i) (hz:i.zero=some z)
  (hsize:i.size=size) (hby:i.bytes=bytes) (hzs:z.cells.size=size) (hsz:0<size) (v:Value) (xs:List D) (y:D) (cs:List Value) (T:TypeId) (hs:a.eval s=v) (hx:a.eval x=.slice (some ⟨B,0,none⟩) 1 1)
  (hv:OwnN W0 lo F e size v xs) (hd:DsAt W0 F [y] cs) (hlo:lo<=W0.heap.size) (hw:y.width=size) (h63:xs.length+1<=maxLen) (hbytes:(xs.length+1)*bytes<=140737488355328)
  (h:∀ ao cap w',OwnN w' lo F e size (.slice ao (xs.length+1) cap) (xs++[y])->Below lo W0 w'->K (a.put o.dst (.slice ao (xs.length+1) cap)) w') :
  o.wp P a (W0.alloc (.cells cs.toArray T)) K Q:=by
 obtain ⟨r,h1,h2⟩:=hv
 have hb:Below W0.heap.size W0 (W0.alloc (.cells cs.toArray T)):=(Below.refl _ _).alloc (Nat.le_refl _) _
 have hnb:(W0.alloc (.cells cs.toArray T)).heap[W0.heap.size]?=some (.cells cs.toArray T (0,0)):=boxed (B:=W0.heap.size+1) (Below.refl _ _) (by omega)
 have hnews:∀ j u,cs[j]?=some u->(W0.alloc (.cells cs.toArray T)).cell? ((⟨W0.heap.size,0,none⟩:Addr).add j)=some u:=fun j u hu=>by
  have hc:=cH (i:=j) hnb (v:=u) (by simpa using hu)
  unfold Addr.add
  by_cases h0:j=0
  ·subst h0;simpa using hc
  ·rw [if_neg h0];simpa using hc
 have hlen:cs.length=1*size:=by
  have:=DsAt.length _ _ hd
  rw [this];simp [widths,hw]
 have hd':DsAt (W0.alloc (.cells cs.toArray T)) F [y] cs:=DsAt.agree ((agree_of_below hb).mono h1.lt) _ _ hd
 have h1':=h1.alloc (.cells cs.toArray T)
 obtain ⟨cs0,k1,k2⟩:=h1'.cells
 refine wp_append_lies (W0.alloc (.cells cs.toArray T)) s x t ho 0 e i z size bytes ht hi hz hsize hby hzs hsz v xs.length cs0 hs k1 ⟨W0.heap.size,0,none⟩ 1 1 cs (by rw [hx,hB]) hlen hnews (DsAt.one _ _ hd) (by omega) h63 hbytes (Nat.zero_le _) _ rfl (fun g cap w' hown hgr hat hlt=>?_)
 obtain ⟨g1,g2,g3⟩:=h1'.appended (ys:=[y]) k2 hown hgr (by rcases hat with h | h;exact .inl h.symm;exact .inr (by rw [h];rfl)) hd'
 have hm0:Mod (fun k=>r=some k) W0 w':=(Mod.of_below (S:=fun k=>r=some k) hb).trans g2 (fun _ _ h=>h)
 refine h _ _ _ ⟨_,g1,fun k hk=>?_⟩ (hm0.below hlo (fun k hk=>h2 k hk))
 rcases g3 with g3 | g3
 ·rw [g3] at hk;exact h2 k hk
 ·rw [g3] at hk;simp at hk;omega
theorem step_append_oneO {W0:World} {B:Nat} (hB:W0.heap.size=B) {lo:Nat} {F:Nat->Prop} {ops:Array Oper} {o:Oper} {a:Act} {K:Act->World->Prop} {Q:Exit->Act->World->Prop} {E:Prop} (hgd:o.guard=none) (s x:Operand) (t:TypeId)
  (ho:o.op=.call { callee:=.builtin .append,args:=#[s,x],argTypes:=#[t,t] }) (e:TypeId) (i:TypeInfo) (z:Value) (size bytes:Nat) (ht:P.underlying t=some (.slice e)) (hi:P.info? e=some i) (hz:i.zero=some z)
  (hsize:i.size=size) (hby:i.bytes=bytes) (hzs:z.cells.size=size) (hsz:0<size) (v:Value) (xs:List D) (y:D) (cs:List Value) (T:TypeId) (hs:a.eval s=v) (hx:a.eval x=.slice (some ⟨B,0,none⟩) 1 1)
  (hv:OwnN W0 lo F e size v xs) (hd:DsAt W0 F [y] cs) (hlo:lo<=W0.heap.size) (hw:y.width=size) (h63:xs.length+1<=maxLen) (hbytes:(xs.length+1)*bytes<=140737488355328)
  (h:∀ ao cap w',OwnN w' lo F e size (.slice ao (xs.length+1) cap) (xs++[y])->Below lo W0 w'->K (a.put o.dst (.slice ao (xs.length+1) cap)) w') :
  if Region.wanted o (yielded ops a.tmps)=true then Oper.wp P o a (W0.alloc (.cells cs.toArray T)) K Q else E:=by
 have hwn:Region.wanted o (yielded ops a.tmps)=true:=by simp [Region.wanted,hgd]
 rw [if_pos hwn]
 exact wp_append_oneO hB s x t ho e i z size bytes ht hi hz hsize hby hzs hsz v xs y cs T hs hx hv hd hlo hw h63 hbytes h
end Go.Chalk
namespace Go.Proofs.YtjjkfgjnadaheaaGreatDoor
open Go.RowKit Go.Chalk
attribute [local go_sem] Oper.semAt_some
theorem etuples_any (s:Schl) (x:SchA) (l:List Bnd) (y:SlA) (w:World) (hI:ItoaAt) (hs:SchIn w (·<w.heap.size) s x) (hsm:SchSmall s) (hy:SlIn w (·<w.heap.size) (l.map Bnd.toD) y) (hl:l.length<=2000000) :
  Calls Tryz.prog 109 #[.agg (x.cells s).toArray,.slice y.a l.length y.cap] w fun e w'=>∃ sb lb,e=.returned (.func (.func 181) #[] #[.pointer (some ⟨sb,0,none⟩),.pointer (some ⟨lb,0,none⟩)]) /\
   IterV Tryz.prog 181 #[.pointer (some ⟨sb,0,none⟩),.pointer (some ⟨lb,0,none⟩)] (tuplesF (sizesF s l)).length 1 (tupE (sizesF s l)) (fun k=>w.heap.size<=k/\k<w'.heap.size) w'/\Below w.heap.size w w':=by
 have hba:Below w.heap.size w ((w.alloc (.cells (x.cells s).toArray 28)).alloc (.cells #[.slice y.a l.length y.cap] 31)):=((Below.refl _ _).alloc (Nat.le_refl _) _).alloc (by simp) _
 have hbx:SchBox ((w.alloc (.cells (x.cells s).toArray 28)).alloc (.cells #[.slice y.a l.length y.cap] 31)) w.heap.size s x:=by unfold SchBox;rw [heap_get,if_neg (by simp),heap_get,if_pos rfl]
 have hby:((w.alloc (.cells (x.cells s).toArray 28)).alloc (.cells #[.slice y.a l.length y.cap] 31)).heap[w.heap.size+1]?=some (.cells #[.slice y.a l.length y.cap] 31 (0,0)):=by rw [heap_get,if_pos (by simp)]
 have HSZ:=Lh (esizes_any s x l y _ hI (hs.later hba hba.size) hsm (hy.later hba hba.size) hl)
 have hle:=sizesF_le (l:=l) (fun sort=>count_le hsm sort)
 have hln:(sizesF s l).length=l.length:=by simp [sizesF]
 have HB:=Lh (aI hba hby)
 have hmf:∀ (fn:Fn) (first cap:Array Value) (w:World),(Instr.makeFunc fn first cap).run Tryz.prog w=.ok (.func fn first cap) w:=fun _ _ _ _=>rfl
 clear hs hy hba hI hsm hbx hby
 generalize sizesF s l=sz at *
 simp only [SchA.cells,SlA.val] at HSZ HB ⊢
 go_enter Tryz.func109,Tryz.ntmps109
 go_wp2_with fail
 refine HSZ.out.mono ?_
 rintro e w1 ⟨v,rfl,hon,hb⟩
 have HON:=Lh (aI hon hb)
 have HLL:=Lh (aI hle hln)
 obtain ⟨oa,ocap,ho⟩:=hon.form
 subst ho
 rw [dints_length,nats_length]
 clear hon hb hle hln
 go_wp2_with fail
 go_ret
 obtain ⟨⟨r,hown,hr⟩,hb⟩:=HON.out
 have hws:(((w.alloc (.cells (x.cells s).toArray 28)).alloc (.cells #[.slice y.a l.length y.cap] 31))).heap.size=w.heap.size+2:=by simp
 simp only [SchA.cells,SlA.val] at hws
 have hba2:Below w1.heap.size w1 (w1.alloc (.cells #[.slice oa sz.length ocap] 90)):=(Below.refl _ _).alloc (Nat.le_refl _) _
 have hsz1:=hb.size
 refine ⟨w1.heap.size,w.heap.size+1,rfl,?_,HB.out.1.trans ((hb.trans (hba2.mono hb.size)).mono HB.out.1.size)⟩
 obtain ⟨xs,hx1,hx2⟩:=hown.sl (G:=fun k=>w.heap.size<=k/\k<w1.heap.size) (fun _ h=>h.elim) (fun k hk=>⟨by have:=hr k hk;omega,hown.row_lt hk⟩) (by rw [dints_widths];simp)
 simp only [dints_length,nats_length,SlA.val,Value.slice.injEq,true_and] at hx1
 obtain ⟨rfl,rfl⟩:=hx1
 have hlb:(w1.alloc (.cells #[.slice xs.a sz.length xs.cap] 90)).heap[w.heap.size+1]?=some (.cells #[.slice y.a sz.length y.cap] 31 (0,0)):=by
  have h0:=(hba2.block _ (by omega)).trans ((hb.block _ (by omega)).trans HB.out.2)
  rw [<- HLL.out.2] at h0
  exact h0
 have hit:=tuples1_iter sz xs y.a y.cap (w1.alloc (.cells #[.slice xs.a sz.length xs.cap] 90)) w1.heap.size (w.heap.size+1) (fun k=>w.heap.size<=k/\k<w1.heap.size) (hx2.agree ((agree_of_below hba2).mono (fun k hk=>hk.2))) (boxed (B:=w1.heap.size+1) (Below.refl _ _) (by omega)) hlb (by rw [HLL.out.2];exact hl) HLL.out.1
 refine hit.mono (Agree.refl _ _) (fun k hk=>?_)
 have:(w1.alloc (.cells #[.slice xs.a sz.length xs.cap] 90)).heap.size=w1.heap.size+1:=by simp
 rcases hk with h | h | h <;> omega

theorem with_any (env:List Ev) (x:SlA) (l:List Bnd) (y:SlA) (t:List Nat) (z:SlA) (w:World) (hx:SlIn w (·<w.heap.size) (env.map Ev.toD) x) (hy:SlIn w (·<w.heap.size) (l.map Bnd.toD) y) (hz:SlIn w (·<w.heap.size) (dints (nats t)) z) (hle:env.length+l.length<=2000000) (htl:t.length=l.length) :
  Calls Tryz.prog 110 #[.slice x.a env.length x.cap,.slice y.a l.length y.cap,.slice z.a t.length z.cap] w fun e w'=>∃ v,e=.returned v/\OwnN w' w.heap.size (fun _=>False) 76 3 v ((withF env l t).map Ev.toD)/\Below w.heap.size w w':=by
 have HCL:=Lh (clone_Ev env x w hx (by omega))
 obtain ⟨g1,_,_,g4,g5⟩:=hy.flat Bnd.flatT
 obtain ⟨k1,_,_,k4,k5⟩:=hz.ints
 rw [nats_length] at k1
 have HC:=Lh (aI g4 g5)
 have HK:=Lh (aI k4 k5)
 obtain ⟨i0,hi,hz0,hz1,hz2⟩:=info_parts infoEv
 have HTL:=Lh htl
 clear hx hy hz g4 g5 k4 k5 htl
 simp only [SlA.val] at HCL
 go_enter Tryz.func110,Tryz.ntmps110
 go_wp2_with fail
 refine HCL.out.mono ?_
 rintro e w1 ⟨v,r,rfl,hown,hnew,hb⟩
 have HB1:=Lh hb
 have hon:OwnN w1 w.heap.size (fun _=>False) 76 3 v ((withF env (l.take 0) (t.take 0)).map Ev.toD):=⟨r,by simpa [withF] using hown,hnew⟩
 have HON:=Lh hon
 clear hon hown hnew hb
 go_wp2_with fail
 go_loopw [0,13] (fun v i wr=>∃ j:Nat,j<=l.length/\i=.int .i64 j/\Below w.heap.size w wr/\Hid (OwnN wr w.heap.size (fun _=>False) 76 3 v ((withF env (l.take j) (t.take j)).map Ev.toD))) (fun _ i _=>l.length - (intOf i).toNat)
 case atStart=>exact ⟨0,Nat.zero_le _,rfl,HB1.out,HON⟩
 case round =>
  obtain ⟨j,hj,rfl,hb,HO⟩:=hrel
  clear HON
  by_cases hlt:j<l.length
  ·obtain ⟨oa,ocap,ho⟩:=HO.out.form
   subst ho
   have hlen:((withF env (l.take j) (t.take j)).map Ev.toD).length=env.length+j:=by have:=HTL.out;simp [withF];omega
   rw [hlen] at HO ⊢
   obtain ⟨hxa,hbl⟩:=g1 (by omega)
   obtain ⟨q0,q1⟩:=HC.out.1.two j hlt rfl
   have e0:=(hb.cell (p:=⟨y.b,y.o+j*2,none⟩) hbl).trans q0
   have e1:=(hb.cell (p:=⟨y.b,y.o+j*2+1,none⟩) hbl).trans q1
   obtain ⟨hza,hzb⟩:=k1 (by have:=HTL.out;omega)
   have e2:=(hb.cell (p:=⟨z.b,z.o+j,none⟩) hzb).trans (HK.out.2 j (by rw [nats_length];have:=HTL.out;omega))
   rw [show (nats t)[j]'(by rw [nats_length];have:=HTL.out;omega)=(t[j]'(by have:=HTL.out;omega):Int) from by simp [nats]] at e2
   have hT:withF env (l.take (j+1)) (t.take (j+1))=withF env (l.take j) (t.take j)++[⟨l[j].name,l[j].sort,(t[j]'(by have:=HTL.out;omega):Nat)⟩]:=by
    unfold withF
    rw [List.take_succ_eq_append_getElem hlt,List.take_succ_eq_append_getElem (show j<t.length by have:=HTL.out;omega),List.zip_append (by have:=HTL.out;simp;omega),List.map_append,List.append_assoc]
    rfl
   have HT:=Lh hT
   have hfj:=HC.out.2 _ (List.getElem_mem hlt)
   have hki:I64 (t[j]'(by have:=HTL.out;omega):Nat):=by
    have hjt:j<(nats t).length:=by rw [nats_length];have:=HTL.out;omega
    have:=HK.out.1 ((nats t)[j]'hjt) (List.getElem_mem hjt)
    exact ⟨by omega,by have h2:=this.2;simpa [nats] using h2⟩
   have HF:=Lh (aI hfj hki)
   have hb1:Below wr.heap.size wr (wr.alloc (.cells #[.string ⟨l[j].name.toArray⟩,.int .i64 l[j].sort] 149)):=(Below.refl _ _).alloc (Nat.le_refl _) _
   have HO1:=Lh (HO.out.below hb1.drew)
   have HB2:=Lh (hb.trans (hb1.drew.mono hb.size))
   have HLN:=Lh hlen
   have e2':=cell_alloc (x:=.cells #[.string ⟨l[j].name.toArray⟩,.int .i64 l[j].sort] 149) e2
   rw [hxa,hza]
   clear q0 q1 hb1 hlen hT hfj hki
   generalize withF env (l.take j) (t.take j)=bs at HO HO1 HT HLN
   generalize t[j]'(by have:=HTL.out;omega)=tk at HT HF e2 e2'
   generalize l[j]=be at HF HT HO1 HB2 e0 e1 e2'
   obtain ⟨nm,so⟩:=be
   simp only at HF HT HO1 HB2 e0 e1 e2'
   have hjl:(j:Int)<(t.length:Int):=by have:=HTL.out;omega
   go_wp2_with fail
   go_region_law (first | (refine step_append_oneO (B:=wr.heap.size+1) (by simp) (by rfl) _ _ 29 (by rfl) 76 i0 _ 3 32 Tryz.underlying29 hi hz0 hz1 hz2 rfl (by decide) (.slice oa (env.length+j) ocap) (bs.map Ev.toD) (Ev.toD ⟨nm,so,tk⟩) [.string ⟨nm.toArray⟩,.int .i64 so,.int .i64 tk] 76 rfl rfl HO1.out (DsAt.flat1 (Ev.flatT.flat _) ⟨HF.out.1.1,HF.out.1.2.1,HF.out.2.wf,trivial⟩) (by have:=HB2.out.size;omega) rfl (by rw [HLN.out];unfold maxLen;omega) (by rw [HLN.out];omega) ?_;intro ao cap w5 hon hb5;rw [HLN.out] at hon ⊢;have HON:=Lh (aI hon (HB2.out.trans hb5));clear hon hb5))
   all_goals
    go_wp2_with fail
    refine ⟨⟨j+1,by omega,by go_num,HON.out.2,Lh ?_⟩,by simp [intOf];omega⟩
    rw [HT.out,List.map_append]
    exact HON.out.1
  ·have HE:Hid (withF env (l.take j) (t.take j)=withF env l t):=Lh (by rw [List.take_of_length_le (by omega),List.take_of_length_le (by have:=HTL.out;omega)])
   go_wp2_with fail
   go_ret
   refine ⟨_,rfl,?_,hb⟩
   rw [<- HE.out]
   exact HO.out
end Go.Proofs.YtjjkfgjnadaheaaGreatDoor
/- ground's maker: the variable, its first week, a node. -/
namespace Go.Chalk
open Go.RowKit
theorem DsAt.repl {w:World} {F:Nat->Prop} {x:D} {cs:List Value} (h:DAt w F x cs):∀ n:Nat,DsAt w F (List.replicate n x) (List.replicate n cs).flatten
 | 0=>by rw [List.replicate_zero,List.replicate_zero,List.flatten_nil,DsAt]
 | n+1=>by
  rw [List.replicate_succ,List.replicate_succ,List.flatten_cons,DsAt]
  exact ⟨cs,_,rfl,h,DsAt.repl h n⟩
theorem Plc.fine0:(Plc.toD ⟨0,0⟩).fine:=⟨rfl,rfl,trivial⟩
def fullP (T:TypeId):List PanicEntry:=[{ v:=.iface T (.agg #[]),recovered:=false }]
end Go.Chalk
namespace Go.Proofs.YtjjkfgjnadaheaaGreatDoor
open Go.RowKit Go.Chalk
attribute [local go_sem] Oper.semAt_some
def MkB (W:World) (mb:Nat) (s:Schl) (x:SchA) (left:Int):Prop:=W.heap[mb]?=some (.cells #[.slice x.slots.a s.slots.length x.slots.cap,.slice x.rooms.a s.rooms.length x.rooms.cap,.slice x.people.a s.people.length x.people.cap,.slice x.groups.a s.groups.length x.groups.cap,.slice x.lessons.a s.lessons.length x.lessons.cap,.int .i64 left] 80 (0,0))
theorem MkB.cells {W:World} {mb:Nat} {s:Schl} {x:SchA} {left:Int} (h:MkB W mb s x left):W.cell? ⟨mb,0,none⟩=some (.slice x.slots.a s.slots.length x.slots.cap)/\W.cell? ⟨mb,1,none⟩=some (.slice x.rooms.a s.rooms.length x.rooms.cap)/\W.cell? ⟨mb,2,none⟩=some (.slice x.people.a s.people.length x.people.cap)/\W.cell? ⟨mb,3,none⟩=some (.slice x.groups.a s.groups.length x.groups.cap)/\W.cell? ⟨mb,4,none⟩=some (.slice x.lessons.a s.lessons.length x.lessons.cap)/\W.cell? ⟨mb,5,none⟩=some (.int .i64 left)/\W.frozen? ⟨mb,5,none⟩=false :=
 ⟨cH h rfl,cH h rfl,cH h rfl,cH h rfl,cH h rfl,cH h rfl,fH h⟩
theorem MkB.store {W:World} {mb:Nat} {s:Schl} {x:SchA} {left:Int} (h:MkB W mb s x left) (n:Int):MkB (W.setCell ⟨mb,5,none⟩ (.int .i64 n)) mb s x n:=box_store (i:=5) (.int .i64 n) h
theorem MkB.lt {W:World} {mb:Nat} {s:Schl} {x:SchA} {left:Int} (h:MkB W mb s x left):mb<W.heap.size:=(gS h).1
theorem MkB.kept {W W':World} {mb:Nat} {s:Schl} {x:SchA} {left:Int} {S:Nat->Prop} (h:MkB W mb s x left) (hm:Chalk.Mod S W W') (hS:¬ S mb):MkB W' mb s x left:=heap_kept h hm hS
theorem MkB.alloc {W:World} {mb:Nat} {s:Schl} {x:SchA} {left:Int} (h:MkB W mb s x left) (o:Obj):MkB (W.alloc o) mb s x left:=(Below.heap_alloc _ _ _ h.lt).trans h
theorem infoPlc:(Tryz.prog.info? 99).map (fun i=>(i.zero,i.size,i.bytes))=some (some (.agg #[.int .i64 0,.int .i64 0]),2,16):=by kernel_rfl
theorem make_plcs (n:Nat) (hn:n<=2000000) (W:World):(Instr.makeSlice 48 (.int .i64 (n:Int)) (.int .i64 (n:Int))).run Tryz.prog W=.ok (.slice (some ⟨W.heap.size,0,none⟩) n n) (W.alloc (.cells (List.replicate n [Value.int .i64 0,Value.int .i64 0]).flatten.toArray 99)):=by
 obtain ⟨i0,hi,hz0,hz1,hz2⟩:=info_parts infoPlc
 have:=run_makeSlice (P:=Tryz.prog) W 48 99 i0 _ Tryz.underlying48 hi hz0 .i64 .i64 n n (by omega) (Int.le_refl _) (by rw [hz1];omega) (by rw [hz2];omega) (by omega)
 have hm:madeCells (Value.agg #[.int .i64 0,.int .i64 0]).cells ((n:Int).toNat*2)=(List.replicate n [Value.int .i64 0,Value.int .i64 0]).flatten.toArray:=by
  have hf:(List.replicate n [Value.int .i64 0,Value.int .i64 0]).flatten=List.replicate (n*2) (Value.int .i64 0):=by
   have:[Value.int .i64 0,Value.int .i64 0]=List.replicate 2 (Value.int .i64 0):=rfl
   rw [this,List.flatten_replicate_replicate]
  apply Array.ext
  ·rw [size_madeCells,hf];simp
  ·intro i h1 h2
   simp only [hf,List.getElem_toArray,List.getElem_replicate]
   simp [madeCells,Value.cells]
   have:i % 2=0∨i % 2=1:=by omega
   rcases this with h | h <;> simp [h]
 rw [this,hz1,hm,Int.toNat_natCast]
theorem first_any (s:Schl) (x:SchA) (left:Int) (mb:Nat) (W:World) (hm:MkB W mb s x left) (hl:s.lessons.length<=2000000) :
  Calls Tryz.prog 35 #[.pointer (some ⟨mb,0,none⟩)] W fun e w'=>∃ u:SlA,e=.returned (.agg #[.slice u.a (firstW s).length u.cap])/\SlIn w' (fun k=>W.heap.size<=k/\k<w'.heap.size) ((firstW s).map Plc.toD) u/\Below W.heap.size W w':=by
 obtain ⟨c0,c1,c2,c3,c4,c5,c6⟩:=hm.cells
 have hlt:=hm.lt
 have hmk:=make_plcs s.lessons.length hl
 have hfl:(firstW s).length=s.lessons.length:=by simp [firstW]
 have HFW:Hid (firstW s=List.replicate s.lessons.length ⟨0,0⟩):=Lh rfl
 have HL:=Lh hl
 rw [hfl]
 clear c0 c1 c2 c3 c5 c6 hl hfl hm
 generalize firstW s=fw at HFW ⊢
 generalize s.lessons.length=n at *
 go_enter Tryz.func35,Tryz.ntmps35
 go_wp2_with fail
 refine bodyPost_ret (v:=.agg #[.slice (some ⟨W.heap.size+1,0,none⟩) n n]) (by simp [results,Tryz.results35,go_sem, *]) rfl ?_
 refine ⟨⟨some ⟨W.heap.size+1,0,none⟩,W.heap.size+1,0,n⟩,rfl,?_,((Below.refl _ _).alloc (Nat.le_refl _) _).alloc (by simp) _⟩
 rw [HFW.out,List.map_replicate]
 refine SlIn.lit (T:=99) (fz:=(0,0)) (cs:=(List.replicate n [Value.int .i64 0,Value.int .i64 0]).flatten) (by rw [heap_get,if_pos (by simp)]) (DsAt.repl ((DAt.flat _ _ (by rfl)).2 ⟨rfl,?_⟩) n) ⟨by omega,by simp⟩ (by simp) (by have:=HL.out;unfold maxLen;omega)
 exact Plc.fine0

def PartP (s:Schl) (x:SchA) (mb:Nat) (left:Nat) (v:Value) (W:World) (e:Ending) (W':World):Prop :=
 Chalk.Mod (fun k=>k=mb) W W'/\((0<left/\e=.returned v/\MkB W' mb s x ((left:Int) - 1))∨(left=0/\e=.panicked (fullP 151)/\MkB W' mb s x (-1)))
theorem part_any (kind:Int) (a:Option Addr) (n cap:Nat) (s:Schl) (x:SchA) (left:Nat) (mb:Nat) (W:World) (hm:MkB W mb s x left) (hl:left<=65536) :
  Calls Tryz.prog 81 #[.pointer (some ⟨mb,0,none⟩),.int .i64 kind,.slice a n cap] W (PartP s x mb left (.agg #[.int .i64 kind,.int .i64 0,.int .i64 0,.slice a n cap]) W):=by
 obtain ⟨c0,c1,c2,c3,c4,c5,c6⟩:=hm.cells
 have hlt:=hm.lt
 have HM:=Lh hm
 clear c0 c1 c2 c3 c4 hm
 rcases Nat.eq_zero_or_pos left with h0 | h0
 ·subst h0
  go_enter Tryz.func81,Tryz.ntmps81
  go_wp2_with fail
  refine ⟨rfl,((Chalk.Mod.refl (fun k=>k=mb) W).setCell (p:=⟨mb,5,none⟩) (fun _=>rfl) _).alloc _,.inr ⟨rfl,rfl,?_⟩⟩
  exact (HM.out.store (-1)).alloc _
 ·go_enter Tryz.func81,Tryz.ntmps81
  go_wp2_with fail
  refine bodyPost_ret (v:=.agg #[.int .i64 kind,.int .i64 0,.int .i64 0,.slice a n cap]) (by simp [results,Tryz.results81,go_sem, *]) rfl ?_
  refine ⟨((Chalk.Mod.refl (fun k=>k=mb) W).setCell (p:=⟨mb,5,none⟩) (fun _=>rfl) _).alloc _,.inl ⟨h0,rfl,?_⟩⟩
  exact (HM.out.store _).alloc _

theorem gwith_any (env:List Ev) (x:SlA) (l:List Bnd) (y:SlA) (t:List Nat) (z:SlA) (w:World) (hx:SlIn w (·<w.heap.size) (env.map Ev.toD) x) (hy:SlIn w (·<w.heap.size) (l.map Bnd.toD) y) (hz:SlIn w (·<w.heap.size) (dints (nats t)) z) (hle:env.length+l.length<=2000000) (htl:t.length=l.length) :
  Calls Tryz.prog 152 #[.slice x.a env.length x.cap,.slice y.a l.length y.cap,.slice z.a t.length z.cap] w fun e w'=>∃ v,e=.returned v/\OwnN w' w.heap.size (fun _=>False) 76 3 v ((withF env l t).map Ev.toD)/\Below w.heap.size w w':=by
 have HCL:=Lh (clone_Ev env x w hx (by omega))
 obtain ⟨g1,_,_,g4,g5⟩:=hy.flat Bnd.flatT
 obtain ⟨k1,_,_,k4,k5⟩:=hz.ints
 rw [nats_length] at k1
 have HC:=Lh (aI g4 g5)
 have HK:=Lh (aI k4 k5)
 obtain ⟨i0,hi,hz0,hz1,hz2⟩:=info_parts infoEv
 have HTL:=Lh htl
 clear hx hy hz g4 g5 k4 k5 htl
 simp only [SlA.val] at HCL
 go_enter Tryz.func152,Tryz.ntmps152
 go_wp2_with fail
 refine HCL.out.mono ?_
 rintro e w1 ⟨v,r,rfl,hown,hnew,hb⟩
 have HB1:=Lh hb
 have hon:OwnN w1 w.heap.size (fun _=>False) 76 3 v ((withF env (l.take 0) (t.take 0)).map Ev.toD):=⟨r,by simpa [withF] using hown,hnew⟩
 have HON:=Lh hon
 clear hon hown hnew hb
 go_wp2_with fail
 go_loopw [7,14] (fun v i wr=>∃ j:Nat,j<=l.length/\i=.int .i64 j/\Below w.heap.size w wr/\Hid (OwnN wr w.heap.size (fun _=>False) 76 3 v ((withF env (l.take j) (t.take j)).map Ev.toD))) (fun _ i _=>l.length - (intOf i).toNat)
 case atStart=>exact ⟨0,Nat.zero_le _,rfl,HB1.out,HON⟩
 case round =>
  obtain ⟨j,hj,rfl,hb,HO⟩:=hrel
  clear HON
  by_cases hlt:j<l.length
  ·obtain ⟨oa,ocap,ho⟩:=HO.out.form
   subst ho
   have hlen:((withF env (l.take j) (t.take j)).map Ev.toD).length=env.length+j:=by have:=HTL.out;simp [withF];omega
   rw [hlen] at HO ⊢
   obtain ⟨hxa,hbl⟩:=g1 (by omega)
   obtain ⟨q0,q1⟩:=HC.out.1.two j hlt rfl
   have e0:=(hb.cell (p:=⟨y.b,y.o+j*2,none⟩) hbl).trans q0
   have e1:=(hb.cell (p:=⟨y.b,y.o+j*2+1,none⟩) hbl).trans q1
   obtain ⟨hza,hzb⟩:=k1 (by have:=HTL.out;omega)
   have e2:=(hb.cell (p:=⟨z.b,z.o+j,none⟩) hzb).trans (HK.out.2 j (by rw [nats_length];have:=HTL.out;omega))
   rw [show (nats t)[j]'(by rw [nats_length];have:=HTL.out;omega)=(t[j]'(by have:=HTL.out;omega):Int) from by simp [nats]] at e2
   have hT:withF env (l.take (j+1)) (t.take (j+1))=withF env (l.take j) (t.take j)++[⟨l[j].name,l[j].sort,(t[j]'(by have:=HTL.out;omega):Nat)⟩]:=by
    unfold withF
    rw [List.take_succ_eq_append_getElem hlt,List.take_succ_eq_append_getElem (show j<t.length by have:=HTL.out;omega),List.zip_append (by have:=HTL.out;simp;omega),List.map_append,List.append_assoc]
    rfl
   have HT:=Lh hT
   have hfj:=HC.out.2 _ (List.getElem_mem hlt)
   have hki:I64 (t[j]'(by have:=HTL.out;omega):Nat):=by
    have hjt:j<(nats t).length:=by rw [nats_length];have:=HTL.out;omega
    have:=HK.out.1 ((nats t)[j]'hjt) (List.getElem_mem hjt)
    exact ⟨by omega,by have h2:=this.2;simpa [nats] using h2⟩
   have HF:=Lh (aI hfj hki)
   have hb1:Below wr.heap.size wr (wr.alloc (.cells #[.string ⟨l[j].name.toArray⟩,.int .i64 l[j].sort] 149)):=(Below.refl _ _).alloc (Nat.le_refl _) _
   have HO1:=Lh (HO.out.below hb1.drew)
   have HB2:=Lh (hb.trans (hb1.drew.mono hb.size))
   have HLN:=Lh hlen
   have e2':=cell_alloc (x:=.cells #[.string ⟨l[j].name.toArray⟩,.int .i64 l[j].sort] 149) e2
   rw [hxa,hza]
   clear q0 q1 hb1 hlen hT hfj hki
   generalize withF env (l.take j) (t.take j)=bs at HO HO1 HT HLN
   generalize t[j]'(by have:=HTL.out;omega)=tk at HT HF e2 e2'
   generalize l[j]=be at HF HT HO1 HB2 e0 e1 e2'
   obtain ⟨nm,so⟩:=be
   simp only at HF HT HO1 HB2 e0 e1 e2'
   have hjl:(j:Int)<(t.length:Int):=by have:=HTL.out;omega
   go_wp2_with fail
   go_region_law (first | (refine step_append_oneO (B:=wr.heap.size+1) (by simp) (by rfl) _ _ 29 (by rfl) 76 i0 _ 3 32 Tryz.underlying29 hi hz0 hz1 hz2 rfl (by decide) (.slice oa (env.length+j) ocap) (bs.map Ev.toD) (Ev.toD ⟨nm,so,tk⟩) [.string ⟨nm.toArray⟩,.int .i64 so,.int .i64 tk] 76 rfl rfl HO1.out (DsAt.flat1 (Ev.flatT.flat _) ⟨HF.out.1.1,HF.out.1.2.1,HF.out.2.wf,trivial⟩) (by have:=HB2.out.size;omega) rfl (by rw [HLN.out];unfold maxLen;omega) (by rw [HLN.out];omega) ?_;intro ao cap w5 hon hb5;rw [HLN.out] at hon ⊢;have HON:=Lh (aI hon (HB2.out.trans hb5));clear hon hb5))
   all_goals
    go_wp2_with fail
    refine ⟨⟨j+1,by omega,by go_num,HON.out.2,Lh ?_⟩,by simp [intOf];omega⟩
    rw [HT.out,List.map_append]
    exact HON.out.1
  ·have HE:Hid (withF env (l.take j) (t.take j)=withF env l t):=Lh (by rw [List.take_of_length_le (by omega),List.take_of_length_le (by have:=HTL.out;omega)])
   go_wp2_with fail
   go_ret
   refine ⟨_,rfl,?_,hb⟩
   rw [<- HE.out]
   exact HO.out
end Go.Proofs.YtjjkfgjnadaheaaGreatDoor
/- ground.place: the last element of an environment that has a name. -/
namespace Go.Chalk
open Go.RowKit
theorem set_heap_other {W:World} {a:Addr} {v:Value} {k:Nat} (h:k ≠ a.block):(W.setCell a v).heap[k]?=W.heap[k]?:=by
 by_cases hk:k<W.heap.size
 ·exact ((Mod.refl (fun k=>k=a.block) W).setCell (p:=a) (fun _=>rfl) v).block k hk h
 ·rw [Array.getElem?_eq_none (by simp;omega),Array.getElem?_eq_none (by omega)]
def plOf (env:List Ev) (name:Bs):Int:=((env.reverse.find? (fun x=>x.name==name)).map Ev.at_).getD 0
def rvE (env:List Ev) (i:Nat):Ev:=env.reverse[i]?.getD ⟨[],0,0⟩
theorem rvE_eq {env:List Ev} {q:Nat} (h:q<env.length):rvE env (env.length - (q+1))=env[q]:=by
 unfold rvE
 rw [List.getElem?_reverse (by omega),show env.length - 1 - (env.length - (q+1))=q by omega,List.getElem?_eq_getElem h];rfl
theorem plOf_none {env:List Ev} {name:Bs} (h:∀ i,i<env.length->(rvE env i).name ≠ name):plOf env name=0:=by
 have:env.reverse.find? (fun x=>x.name==name)=none:=by
  rw [List.find?_eq_none]
  intro x hx
  obtain ⟨i,hi,rfl⟩:=List.mem_iff_getElem.1 hx
  have:=h i (by simpa using hi)
  unfold rvE at this
  rw [List.getElem?_eq_getElem hi] at this
  simpa using this
 unfold plOf;rw [this];rfl
theorem plOf_some {env:List Ev} {name:Bs} {i:Nat} (hi:i<env.length) (h:∀ j,j<i->(rvE env j).name ≠ name) (he:(rvE env i).name=name):plOf env name=(rvE env i).at_:=by
 have hi':i<env.reverse.length:=by simpa using hi
 have e:rvE env i=env.reverse[i]:=by unfold rvE;rw [List.getElem?_eq_getElem hi'];rfl
 have:env.reverse.find? (fun x=>x.name==name)=some env.reverse[i]:=by
  rw [List.find?_eq_some_iff_getElem]
  refine ⟨by rw [<- e];simpa using he,i,hi',rfl,fun j hj=>?_⟩
  have h1:=h j hj
  unfold rvE at h1
  rw [List.getElem?_eq_getElem (by omega)] at h1
  simpa using h1
 unfold plOf;rw [this,e];rfl
theorem plOf_eq {env:List Ev} (h:mayA (evBinds env)=true) (name:Bs):plOf env name=(evOf env name).at_:=by
 have key:∀ i (hi:i<env.length),findB (evBinds env) env[i].name=some i:=fun i hi=>by
  unfold mayA at h
  have h1:=List.all_eq_true.1 h i (List.mem_range.2 (by simpa [evBinds] using hi))
  have h2:(evBinds env)[i]?=some ⟨env[i].name,env[i].sort⟩:=by simp [evBinds,hi]
  rw [h2] at h1
  simp only [Bool.and_eq_true,beq_iff_eq] at h1
  exact h1.2
 have same:∀ e∈env,∀ e'∈env,e.name=e'.name->e=e':=fun e he e' he' hn=>by
  obtain ⟨i,hi,rfl⟩:=List.mem_iff_getElem.1 he
  obtain ⟨j,hj,rfl⟩:=List.mem_iff_getElem.1 he'
  have h1:=key i hi
  rw [hn,key j hj] at h1
  obtain rfl:=Option.some.inj h1
  rfl
 unfold plOf evOf
 cases h1:env.find? (fun x=>x.name==name) with
 | none =>
  have h2:env.reverse.find? (fun x=>x.name==name)=none:=by
   rw [List.find?_eq_none] at h1 ⊢
   exact fun x hx=>h1 x (List.mem_reverse.1 hx)
  rw [h2];rfl
 | some e =>
  have m1:=List.mem_of_find?_eq_some h1
  have n1:=List.find?_some h1
  cases h2:env.reverse.find? (fun x=>x.name==name) with
  | none =>
   rw [List.find?_eq_none] at h2
   exact absurd n1 (h2 e (List.mem_reverse.2 m1))
  | some e' =>
   have m2:=List.mem_reverse.1 (List.mem_of_find?_eq_some h2)
   have n2:=List.find?_some h2
   have:e'=e:=same e' m2 e m1 (by simp at n1 n2;rw [n1,n2])
   rw [this];rfl
end Go.Chalk
namespace Go.Proofs.YtjjkfgjnadaheaaGreatDoor
open Go.RowKit Go.Chalk
attribute [local go_sem] Oper.semAt_some
theorem int_leaves {fn:Func} {R:Ending->World->Prop} {w W:World} {D0:Nat} {c:Int} {T:TypeId} {tm:Array Value} (hb:Below w.heap.size w W) (hx:W.heap[w.heap.size+1]?=some (.cells #[.int .i64 c] T (0,0))) (hd:W.heap[D0]?=some (.deferred (some []))) (hD:w.heap.size+1<D0)
  (hres:∀ W',W'.cell? ⟨w.heap.size+1,0,none⟩=some (.int .i64 c)->(results fn tm).run Tryz.prog W'=.ok (.int .i64 c) W') (hR:∀ W',Below w.heap.size w W'->R (.returned (.int .i64 c)) W') :
  LeavesInM Fence.wide 0 Tryz.prog fn tm R ([D0].map Chalk.mark) .returning W:=by
 refine leaves_marks_at (v:=.int .i64 c) [D0] W (by simp) (fun d h=>by simp at h;subst h;exact hd) (fun W' hm'=>?_)
 have hx':W'.heap[w.heap.size+1]?=some (.cells #[.int .i64 c] T (0,0)):=heap_kept hx hm' (fun hk=>by simp at hk;omega)
 exact ⟨hres W' (cH hx' rfl),hR _ (hb.trans (hm'.below hb.size (fun k hk=>by simp at hk;omega)))⟩
def evV (e:Ev):Value:=.agg #[.string ⟨e.name.toArray⟩,.int .i64 e.sort,.int .i64 e.at_]
theorem back1_iter (env:List Ev) (x:SlA) (w:World) (b:Nat) (F:Nat->Prop) (hx:SlIn w F (env.map Ev.toD) x) (h1:w.heap[b]?=some (.cells #[.slice x.a env.length x.cap] 29 (0,0))) (hmax:env.length<=2000000) :
  Iter Tryz.prog 208 #[.pointer (some ⟨b,0,none⟩)] env.length (fun i=>#[.int .i64 ((env.length:Int) - 1 - i),evV (rvE env i)]) (fun k=>F k∨k=b) w:=by
 intro l J Jx T W hAg hD hT hJ hJx hY h0
 have q1:W.cell? ⟨b,0,none⟩=some (.slice x.a env.length x.cap):=cH ((hAg b (.inr rfl)).trans h1) rfl
 obtain ⟨g1,_,_,g4,_⟩:=(hx.agree (hAg.mono (fun k hk=>.inl hk))).flat Ev.flatT
 have HY:=Lh hY
 have HJ:=Lh hJ
 have HD:=Lh hD
 have HT:=Lh hT
 have HX:=Lh (aI g1 g4)
 have HQ:=Lh q1
 have HB0:=Lh (Between.start (W:=W) h0)
 have HJX:=Lh hJx
 clear hY hJ hJx hD hT hAg h0 hx h1 g1 g4
 show Calls Tryz.prog 208 #[.func (.yield l) #[] #[],.pointer (some ⟨b,0,none⟩)] W _
 refine (callsIn_wide (n:=0)).1 (callsIn_of_wp Tryz.func208 rfl trivial ?_ rfl)
 simp only [Tryz.ntmps208,List.size_toArray,List.length_cons,List.length_nil,Nat.reduceAdd,Nat.reduceSub,Array.replicate_succ,Array.replicate_zero,List.push_toArray,List.append_toArray,List.nil_append,List.cons_append]
 gi_wp2_with fail
 gi_loopg [3] env.length (fun k s3 wr=>s3=.int .i64 ((k:Int) - 1)/\k<=env.length/\∃ T1,Hid (Between J T T1 W wr (env.length - k)))
 case atStart=>exact ⟨by go_num,Nat.le_refl _,T,Lh (by rw [Nat.sub_self];exact HB0.out)⟩
 case round =>
  obtain ⟨rfl,hk,T1,HB⟩:=hrel
  clear HB0 q1
  have s1:wr.cell? ⟨b,0,none⟩=some (.slice x.a env.length x.cap):=(World.cell?_of_block (w:=W) (HB.out.agree HD.out b (.inr rfl))).trans HQ.out
  cases gk with
  | zero =>
   gi_wp2_with fail
   go_end0
   exact Between.done (by have:=HB.out;rwa [Nat.sub_zero] at this)
  | succ q =>
   have hqn:q<env.length:=by omega
   have hqi:(((q+1:Nat):Int) - 1)=(q:Int):=by omega
   rw [hqi]
   obtain ⟨hxa,hFb⟩:=HX.out.1 (by omega)
   obtain ⟨e0,e1,e2⟩:=HX.out.2.three q hqn rfl
   have hxb:=HB.out.agree HD.out x.b (.inl hFb)
   have d0:=(World.cell?_of_block (w:=W) (a:=⟨x.b,x.o+q*3,none⟩) hxb).trans e0
   have d1:=(World.cell?_of_block (w:=W) (a:=⟨x.b,x.o+q*3+1,none⟩) hxb).trans e1
   have d2:=(World.cell?_of_block (w:=W) (a:=⟨x.b,x.o+q*3+2,none⟩) hxb).trans e2
   obtain ⟨fn,tmps,assign,body,hy,hRd⟩:=HY.out (env.length - (q+1)) T1 wr (by omega) HB.out.inv (HB.out.lt HT.out)
   rw [rvE_eq hqn,show ((env.length:Int) - 1 - ((env.length - (q+1):Nat):Int))=(q:Int) by omega] at hy
   have HRR:=Lh hRd
   have hqlt:(q:Int)<(env.length:Int):=by omega
   rw [hxa] at s1
   clear hRd hFb hxb e0 e1 e2 hqi hxa
   unfold evV at hy
   generalize env[q]=ev at hy d0 d1 d2
   gi_wp2_with fail
   refine ⟨rfl,HRR.out.mono ?_⟩
   rintro e W2 ⟨T2,he,hm,⟨rfl,hj2⟩ | ⟨rfl,hj2⟩⟩
   rotate_left
   ·have HS:=Lh (HB.out.stop (m:=env.length) (by omega) he hm hj2 (v:=.tuple #[]))
    clear he hm hj2 hy
    gi_wp2_with fail
    go_end0
    exact HS.out
   ·have HB2:=Lh (HB.out.round he hm hj2)
    clear he hm hj2 hy HRR
    gi_wp2_with fail
    gi_roundg q
    case measure=>omega
    case rel=>exact ⟨by go_num,by omega,T2,Lh (by have:=HB2.out;rwa [show env.length - (q+1)+1=env.length - q by omega] at this)⟩
theorem back_any (x:SlA) (n:Nat) (w:World) :
  Calls Tryz.prog 153 #[.slice x.a n x.cap] w fun e w'=>e=.returned (.func (.func 208) #[] #[.pointer (some ⟨w.heap.size,0,none⟩)])/\w.alloc (.cells #[.slice x.a n x.cap] 29)=w':=by
 have hmf:∀ (fn:Fn) (first cap:Array Value) (w:World),(Instr.makeFunc fn first cap).run Tryz.prog w=.ok (.func fn first cap) w:=fun _ _ _ _=>rfl
 go_enter Tryz.func153,Tryz.ntmps153
 go_wp2_with fail
 go_ret
 exact ⟨rfl,rfl⟩
theorem place_any (env:List Ev) (z:SlA) (t:Trm) (w:World) (hz:SlIn w (·<w.heap.size) (env.map Ev.toD) z) (hle:env.length<=2000000) :
  Calls Tryz.prog 82 #[.slice z.a env.length z.cap,.agg #[.int .i64 t.kind,.string ⟨t.name.toArray⟩,.int .i64 t.n]] w fun e w'=>e=.returned (.int .i64 (plOf env t.name))/\Below w.heap.size w w':=by
 have HZ:=Lh hz
 have HLE:=Lh hle
 have HE:=Lh (fun W=>back_any z env.length W)
 clear hz hle
 obtain ⟨k0,name,n0⟩:=t
 simp only
 refine (callsIn_wide (n:=0)).1 (callsIn_of_wp_marks Tryz.func82 rfl trivial ?_)
 simp only [Tryz.ntmps82,List.size_toArray,List.length_cons,List.length_nil,Nat.reduceAdd,Nat.reduceSub,Array.replicate_succ,Array.replicate_zero,List.push_toArray,List.append_toArray,List.nil_append,List.cons_append]
 gi_wp2_with fail
 refine ⟨trivial,rfl,(callsIn_wide.2 (HE.out _)).mono ?_⟩
 rintro e w' ⟨rfl,rfl⟩
 gi_wp2_with fail
 generalize hW3:(((w.alloc _).alloc _).alloc _)=W3
 have hsz:W3.heap.size=w.heap.size+3:=by rw [<- hW3];simp
 have hb3:Below w.heap.size w W3:=by rw [<- hW3];exact (((Below.refl _ _).alloc (Nat.le_refl _) _).alloc (by simp) _).alloc (by simp;omega) _
 have g0:W3.heap[w.heap.size]?=some (.cells #[.int .i64 k0,.string ⟨name.toArray⟩,.int .i64 n0] 147 (0,0)):=by rw [<- hW3];simp only [heap_get,World.size_alloc];repeat (first | rw [if_pos trivial] | rw [if_pos (by omega)] | rw [if_neg (by omega)])
 have g1:W3.heap[w.heap.size+1]?=some (.cells #[.int .i64 0] 3 (0,0)):=by rw [<- hW3];simp only [heap_get,World.size_alloc];repeat (first | rw [if_pos trivial] | rw [if_pos (by omega)] | rw [if_neg (by omega)])
 have g2:W3.heap[w.heap.size+1+1]?=some (.cells #[.slice z.a env.length z.cap] 29 (0,0)):=by rw [<- hW3];simp only [heap_get,World.size_alloc];repeat (first | rw [if_pos trivial] | rw [if_pos (by omega)] | rw [if_neg (by omega)])
 have hit:=back1_iter env z W3 (w.heap.size+1+1) (·<w.heap.size) (HZ.out.agree (agree_of_below hb3)) g2 HLE.out
 have G:=Lh (aI hsz (aI hb3 (aI g0 g1)))
 have HIT:=Lh hit
 clear hW3 hsz hb3 g0 g1 g2 hit HE HZ
 refine wp_range_fx (gf:=208) (lb:=#[.pointer (some ⟨w.heap.size+1+1,0,none⟩)]) rfl (enters_of Tryz.func208 (by kernel_rfl) rfl)
  HIT.out (fun _ _=>rfl) (fun k=>k=w.heap.size+1) (fun k hk=>by have:=G.out.1;omega) (fun k hk=>by have:=G.out.1;omega)
  (fun i W=>W.heap[w.heap.size+1]?=some (.cells #[.int .i64 0] 3 (0,0))/\∀ j,j<i->(rvE env j).name ≠ name)
  (fun c i W=>c=.ret/\∃ j,i=j+1/\j<env.length/\(rvE env j).name=name/\(∀ q,q<j->(rvE env q).name ≠ name)/\W.heap[w.heap.size+1]?=some (.cells #[.int .i64 (rvE env j).at_] 3 (0,0)))
  (fun i W W' S h hm hS=>⟨heap_kept h.1 hm (fun h=>(hS _ h).2 rfl),h.2⟩)
  (fun c i W W' S h hm hS=>by obtain ⟨h1,j,h2,h3,h4,h5,h6⟩:=h;exact ⟨h1,j,h2,h3,h4,h5,heap_kept h6 hm (fun h=>(hS _ h).2 rfl)⟩)
  ⟨G.out.2.2.2,fun j hj=>by omega⟩
  (fun l i a' W=>∃ b,a' = { tmps:=#[.slice z.a env.length z.cap,.agg #[.int .i64 k0,.string ⟨name.toArray⟩,.int .i64 n0],undef,.pointer (some ⟨w.heap.size,0,none⟩),.pointer (some ⟨w.heap.size+1,0,none⟩),undef,.pointer (some ⟨b,0,none⟩),.slice z.a env.length z.cap,.func (.func 208) #[] #[.pointer (some ⟨w.heap.size+1+1,0,none⟩)],.int .i64 ((env.length:Int) - 1 - i),evV (rvE env i),undef,undef,undef,undef,undef,undef,undef],defers:=[] }/\W.heap[b]?=some (.cells #[.string ⟨(rvE env i).name.toArray⟩,.int .i64 (rvE env i).sort,.int .i64 (rvE env i).at_] 76 (0,0))/\b ≠ l)
  (fun l i a' W W' h hm=>by obtain ⟨b,h1,h2,h3⟩:=h;exact ⟨b,h1,heap_kept h2 hm h3,h3⟩) ?assign ?body ?done ?stop
 case assign =>
  intro l i W K hi hm hI hl hK
  have HK:=Lh (hK { tmps:=#[.slice z.a env.length z.cap,.agg #[.int .i64 k0,.string ⟨name.toArray⟩,.int .i64 n0],undef,.pointer (some ⟨w.heap.size,0,none⟩),.pointer (some ⟨w.heap.size+1,0,none⟩),undef,.pointer (some ⟨W.heap.size,0,none⟩),.slice z.a env.length z.cap,.func (.func 208) #[] #[.pointer (some ⟨w.heap.size+1+1,0,none⟩)],.int .i64 ((env.length:Int) - 1 - i),evV (rvE env i),undef,undef,undef,undef,undef,undef,undef],defers:=[] } (W.alloc (.cells #[.string ⟨(rvE env i).name.toArray⟩,.int .i64 (rvE env i).sort,.int .i64 (rvE env i).at_] 76)) ((Chalk.Mod.refl _ W).alloc _) ⟨(Below.heap_alloc _ _ _ (gS hI.1).1).trans hI.1,hI.2⟩ ⟨W.heap.size,rfl,by rw [heap_get,if_pos rfl],by omega⟩)
  clear hK hm hI
  unfold evV at HK ⊢
  generalize rvE env i=ev at HK ⊢
  gi_wp2_with fail
  exact HK.out
 case body =>
  intro l i a' W hi hm hI hax hT hwl hnl
  obtain ⟨b,rfl,hb,hbl⟩:=hax
  have r0:W.cell? ⟨w.heap.size+1,0,none⟩=some (.int .i64 0):=cH hI.1 rfl
  have r1:W.frozen? ⟨w.heap.size+1,0,none⟩=false:=fH hI.1
  have r2:W.cell? ⟨w.heap.size,1,none⟩=some (.string ⟨name.toArray⟩):=cH (heap_kept G.out.2.2.1 hm (by omega)) rfl
  have b0:W.cell? ⟨b,0,none⟩=some (.string ⟨(rvE env i).name.toArray⟩):=cH hb rfl
  have b2:W.cell? ⟨b,2,none⟩=some (.int .i64 (rvE env i).at_):=cH hb rfl
  have HI:=Lh hI
  clear hI hb hm
  by_cases hn:(rvE env i).name=name
  ·have HN:=Lh hn
   rw [hn] at b0
   clear hn
   unfold evV
   generalize hev:rvE env i=ev at *
   have HEV:=Lh hev
   clear hev
   gi_wp2_with fail
   refine ⟨(Chalk.Mod.refl (fun k=>k=w.heap.size+1) W).setCell (p:=⟨w.heap.size+1,0,none⟩) (fun _=>rfl) _,rfl,i,rfl,hi,by rw [HEV.out];exact HN.out,HI.out.2,?_⟩
   rw [HEV.out,box_store _ HI.out.1];rfl
  ·have HN:=Lh hn
   have hne:((rvE env i).name==name)=false:=by simpa using hn
   clear hn
   generalize (rvE env i).name=en at hne b0
   gi_wp2_with fail
   exact ⟨Chalk.Mod.refl _ _,HI.out.1,fun j hj=>by
    by_cases h:j=i
    ·subst h;exact HN.out
    ·exact HI.out.2 j (by omega)⟩
 case done =>
  intro D0 W hD0 hDlt hnD hm hI hdd
  have r0:W.cell? ⟨w.heap.size+1,0,none⟩=some (.int .i64 0):=cH hI.1 rfl
  have r1:W.frozen? ⟨w.heap.size+1,0,none⟩=false:=fH hI.1
  have HI:=Lh hI
  have HH:=Lh (aI hm hdd)
  have HBW:Hid (Below w.heap.size w W):=Lh (G.out.2.1.trans (hm.below (B:=w.heap.size) (by have:=G.out.1;omega) (fun k hk=>by omega)))
  clear hI hm hdd
  gi_wp2_with fail
  have z3:=G.out.1
  refine int_leaves (w:=w) (c:=0) (T:=3) (D0:=D0) (HBW.out.trans (((Chalk.Mod.refl (fun k=>k=w.heap.size+1) W).setCell (p:=⟨w.heap.size+1,0,none⟩) (fun _=>rfl) _).below HBW.out.size (fun k hk=>by omega))) (by rw [box_store _ HI.out.1];rfl) ((set_heap_other (by show D0 ≠ w.heap.size+1;omega)).trans HH.out.2) (by omega) (fun W' hc=>by simp [results,Tryz.results82,go_sem,hc]) (fun W' hb=>⟨by rw [plOf_none HI.out.2],hb⟩)
 case stop =>
  intro D0 c i W hD0 hDlt hnD hi0 him hm hI hdd
  obtain ⟨rfl,j,rfl,hj,h1,h2,h3⟩:=hI
  have r0:W.cell? ⟨w.heap.size+1,0,none⟩=some (.int .i64 (rvE env j).at_):=cH h3 rfl
  have HH:=Lh (aI h3 (aI hdd (plOf_some hj h2 h1)))
  have HBW:Hid (Below w.heap.size w W):=Lh (G.out.2.1.trans (hm.below (B:=w.heap.size) (by have:=G.out.1;omega) (fun k hk=>by omega)))
  clear h1 h2 h3 hm hdd
  gi_wp2_with fail
  have z3:=G.out.1
  exact int_leaves (w:=w) (c:=(rvE env j).at_) (T:=3) (D0:=D0) HBW.out HH.out.1 HH.out.2.1 (by omega) (fun W' hc=>by simp [results,Tryz.results82,go_sem,hc]) (fun W' hb=>⟨by rw [HH.out.2.2],hb⟩)
end Go.Proofs.YtjjkfgjnadaheaaGreatDoor
/- ground's maker: the tuples of a list of binds. -/
namespace Go.Proofs.YtjjkfgjnadaheaaGreatDoor
open Go.RowKit Go.Chalk
attribute [local go_sem] Oper.semAt_some
structure RowsIn (s:Schl) (x:SchA) (l:List Bnd) (ya:SlA) (F:Nat->Prop) (lb mp mb:Nat) (W:World):Prop where
 sch:SchIn W F s x
 bnds:SlIn W F (l.map Bnd.toD) ya
 lbox:W.heap[lb]?=some (.cells #[.slice ya.a l.length ya.cap] 31 (0,0))
 mbox:W.heap[mp]?=some (.cells #[.pointer (some ⟨mb,0,none⟩)] 83 (0,0))
theorem RowsIn.agree {s:Schl} {x:SchA} {l:List Bnd} {ya:SlA} {F:Nat->Prop} {lb mp mb:Nat} {W W':World} (h:RowsIn s x l ya F lb mp mb W) (ha:Agree (fun k=>F k∨k=lb∨k=mp) W W'):RowsIn s x l ya F lb mp mb W' :=
 ⟨h.sch.agree (ha.mono (fun k hk=>.inl hk)),h.bnds.agree (ha.mono (fun k hk=>.inl hk)),(ha lb (.inr (.inl rfl))).trans h.lbox,(ha mp (.inr (.inr rfl))).trans h.mbox⟩

theorem rows1_iter (s:Schl) (x:SchA) (l:List Bnd) (ya:SlA) (w:World) (lb mp mb:Nat) (F:Nat->Prop) (hI:ItoaAt) (hsm:SchSmall s) (hr:RowsIn s x l ya F lb mp mb w) (hmax:l.length<=2000000) :
  IterP Tryz.prog 207 #[.pointer (some ⟨lb,0,none⟩),.pointer (some ⟨mp,0,none⟩)] (tuplesF (sizesF s l)).length 1 (tupE (sizesF s l)) (fun W=>∃ left,MkB W mb s x left) (fun k=>F k∨k=lb∨k=mp) w:=by
 intro lp J Jx Jp T W hAg hD hT hJ hJx hKw hY h0
 have hrW:=hr.agree hAg
 have hsz:(sizesF s l).length=l.length:=by simp [sizesF]
 have hszm:∀ k∈sizesF s l,k<=2000000:=fun k hk=>by
  obtain ⟨b,_,rfl⟩:=List.mem_map.1 hk
  have h1:=hsm.slots;have h2:=hsm.rooms;have h3:=hsm.people;have h4:=hsm.groups;have h5:=hsm.lessons;rw [schCount_eq];repeat' split
  all_goals omega
 have HY:=Lh hY
 have HJ:=Lh hJ
 have HJX:=Lh hJx
 have HKW:=Lh hKw
 have HD:=Lh hD
 have HT:=Lh hT
 have HR:=Lh hrW
 have H0:=Lh h0
 have HZ:=Lh hszm
 have HI:=Lh (aI hI (aI hsm hsz))
 have hmk:=make_ints l.length hmax
 -- what school.Count says wherever the iterator stands
 have hCT:∀ (i:Nat) (hi:i<l.length) (W1:World),Agree (fun k=>F k∨k=lb∨k=mp) W W1->W.heap.size<=W1.heap.size->Calls Tryz.prog 98 #[.agg (x.cells s).toArray,.int .i64 l[i].sort] W1 fun e w'=>e=.returned (.int .i64 ((sizesF s l)[i]'(by rw [hsz];exact hi):Nat))/\Below W1.heap.size W1 w':=fun i hi W1 ha hz=>by
  have:=count_any s x l[i].sort W1 hI ((hrW.agree ha).sch.mono (fun k hk=>by have:=(hD k (.inl hk)).1;omega)) hsm
  simpa [sizesF] using this
 have HCT:=Lh hCT
 simp only [SchA.cells,SlA.val] at HCT
 clear hY hJ hJx hKw hD hT hAg hrW hr h0 hszm hCT hI hsm
 show Calls Tryz.prog 207 #[.func (.yield lp) #[] #[],.pointer (some ⟨lb,0,none⟩),.pointer (some ⟨mp,0,none⟩)] W _
 refine (callsIn_wide (n:=0)).1 (callsIn_of_wp Tryz.func207 rfl trivial ?_ rfl)
 simp only [Tryz.ntmps207,List.size_toArray,List.length_cons,List.length_nil,Nat.reduceAdd,Nat.reduceSub,Array.replicate_succ,Array.replicate_zero,List.push_toArray,List.append_toArray,List.nil_append,List.cons_append]
 have q1:W.cell? ⟨lb,0,none⟩=some (.slice ya.a l.length ya.cap):=cH HR.out.lbox rfl
 have hlb:lb<W.heap.size:=(HD.out lb (.inr (.inl rfl))).1
 have hnb:Below W.heap.size W (W.alloc (.cells ((List.replicate l.length 0).map (fun (n:Nat)=>Value.int .i64 n)).toArray 3)):=(Below.refl _ _).alloc (Nat.le_refl _) _
 have R0:TuB 3 J T T W (W.alloc (.cells ((List.replicate l.length 0).map (fun (n:Nat)=>Value.int .i64 n)).toArray 3)) 0 W.heap.size (List.replicate l.length 0) :=
  ⟨Ext.refl _ _ _,Chalk.Mod.of_below hnb,HJ.out _ _ _ _ _ H0.out (Chalk.Mod.of_below (S:=fun _=>False) hnb) (fun _ h=>h.elim),fun h=>by have:=HT.out _ h;omega,Nat.le_refl _,boxed (B:=W.heap.size+1) (Below.refl _ _) (by omega)⟩
 have HR0:=Lh R0
 clear hnb R0 H0
 gi_wp2_with fail
 gi_loopg [13] l.length (fun k v wr=>∃ j:Nat,k+j=l.length/\v=.int .i64 j/\Hid (TuB 3 J T T W wr 0 W.heap.size (List.replicate l.length 0))/\Hid (∀ q (h:q<(sizesF s l).length),q<j->0<(sizesF s l)[q]))
 case atStart=>exact ⟨0,by omega,rfl,Lh (by have:=HR0.out;simpa using this),Lh (fun q h hq=>by omega)⟩
 case round =>
  obtain ⟨j,hkj,rfl,HB,HP⟩:=hrel
  clear HR0 q1
  have hA:=HB.out.mod.agree HD.out
  have hRR:=HR.out.agree hA
  have hzz:=HB.out.mod.size
  by_cases hlt:j<l.length
  ·obtain ⟨lf,hmB⟩:=HKW.out _ _ _ HB.out.inv
   obtain ⟨m0,m1,m2,m3,m4,_,_⟩:=hmB.cells
   have hmlt:=hmB.lt
   have hp:wr.cell? ⟨mp,0,none⟩=some (.pointer (some ⟨mb,0,none⟩)):=cH hRR.mbox rfl
   have hplt:mp<wr.heap.size:=(gS hRR.mbox).1
   obtain ⟨g1,_,_,g4,_⟩:=hRR.bnds.flat Bnd.flatT
   obtain ⟨hxa,hFb⟩:=g1 (by omega)
   obtain ⟨e0,e1⟩:=g4.two j hlt rfl
   have hsj:j<(sizesF s l).length:=by have:=HI.out.2.2;omega
   have hb1:Below wr.heap.size wr (wr.alloc (.cells #[.string ⟨l[j].name.toArray⟩,.int .i64 l[j].sort] 149)).drew:=((Below.refl _ _).alloc (Nat.le_refl _) _).drew
   have hct:=HCT.out j hlt (wr.alloc (.cells #[.string ⟨l[j].name.toArray⟩,.int .i64 l[j].sort] 149)).drew (hA.trans ((agree_of_below hb1).mono (fun k hk=>by have:=(HD.out k hk).1;omega))) (by have:=hb1.size;omega)
   have HSJ:Hid (∃ c,(sizesF s l)[j]=c):=Lh ⟨_,rfl⟩
   have HB1:=Lh hb1
   have HC:=Lh hct
   have HXA:=Lh hxa
   rw [hxa]
   have hjl:(j:Int)<(l.length:Int):=by omega
   clear hA hRR hmB g1 g4 hFb hct hb1 hxa HSJ
   obtain ⟨c,hc⟩:∃ c,(sizesF s l)[j]=c:=⟨_,rfl⟩
   rw [hc] at HC
   have HSJ:=Lh hc
   clear hc
   generalize l[j]=be at e0 e1 HB1 HC
   obtain ⟨nm,so⟩:=be
   simp only at e0 e1 HB1 HC
   rcases Nat.eq_zero_or_pos c with h0 | h0
   ·subst h0
    gi_wp2_with fail
    gi_region_with (first | (refine ⟨trivial,rfl,(callsIn_wide.2 HC.out).mono ?_⟩;rintro e w' ⟨rfl,hb⟩;have HW:=Lh hb;clear hb) | fail)
    all_goals
     gi_wp2_with fail
     go_end0
     have hbw:Below wr.heap.size wr w':=HB1.out.trans (HW.out.mono HB1.out.size)
     have R:=HB.out.own HJ.out (Chalk.Mod.of_below hbw) ((hbw.block _ (gS HB.out.box).1).trans HB.out.box)
     refine ⟨T,R.ext,R.mod,.inl ⟨⟨_,rfl⟩,.inl ?_⟩⟩
     have hm0:(tuplesF (sizesF s l)).length=0:=by rw [tuples_length];exact prod_zero _ (by rw [<- HSJ.out];exact List.getElem_mem _)
     rw [hm0];exact R.inv
   ·have hne:((c:Int)==0)=false:=by simp;omega
    gi_wp2_with fail
    gi_region_with (first | (refine ⟨trivial,rfl,(callsIn_wide.2 HC.out).mono ?_⟩;rintro e w' ⟨rfl,hb⟩;have HW:=Lh hb;clear hb) | fail)
    all_goals
     gi_wp2_with fail
     have hbw:Below wr.heap.size wr w':=HB1.out.trans (HW.out.mono HB1.out.size)
     have R:=Lh (HB.out.own HJ.out (Chalk.Mod.of_below hbw) ((hbw.block _ (gS HB.out.box).1).trans HB.out.box))
     have HP2:Hid (∀ q (h:q<(sizesF s l).length),q<j+1->0<(sizesF s l)[q]):=Lh (fun q h hq=>by
      by_cases hqj:q=j
      ·subst hqj;rw [HSJ.out];exact h0
      ·exact HP.out q h (by omega))
     clear hbw
     rw [<- HXA.out]
     gi_roundg (l.length - (j+1))
     case measure=>omega
     case rel=>exact ⟨j+1,by omega,by go_num,R,HP2⟩
  ·have hpos:∀ k∈sizesF s l,0<k:=fun k hk=>by
    obtain ⟨q,hq,rfl⟩:=List.mem_iff_getElem.1 hk
    exact HP.out q hq (by have:=HI.out.2.2;omega)
   have HPS:=Lh hpos
   have HR0:Hid (TuB 3 J T T W wr 0 W.heap.size (List.replicate l.length 0)/\(tuplesF (sizesF s l))[0]?=some (List.replicate l.length 0)):=Lh ⟨HB.out,by have:=tuples_first _ hpos;rwa [HI.out.2.2] at this⟩
   clear hA hRR hpos HP hzz HB hkj
   obtain ⟨wo,rfl⟩:∃ wo,wo=wr:=⟨wr,rfl⟩
   gi_wp2_with fail
   gi_loopg [] (tuplesF (sizesF s l)).length (fun k wr=>∃ (j:Nat) (T1:Nat->Prop) (ts:List Nat),k+j=(tuplesF (sizesF s l)).length/\Hid (TuB 3 J T T1 W wr j W.heap.size ts/\(tuplesF (sizesF s l))[j]?=some ts))
   case atStart=>exact ⟨0,T,List.replicate l.length 0,by omega,HR0⟩
   case round =>
    obtain ⟨j,T1,ts,hkj,HR2⟩:=hrel
    clear HR0
    obtain ⟨hjl,htj⟩:=List.getElem?_eq_some_iff.1 HR2.out.2
    have hmem:=(tuples_mem (sizesF s l) ts).1 (htj ▸ List.getElem_mem hjl)
    have hle:∀ k∈ts,k<=2000000:=fun k hk=>by
     obtain ⟨i,hi,rfl⟩:=List.mem_iff_getElem.1 hk
     have:=hmem.2 i (by have:=hmem.1;omega) (by omega)
     have:=HZ.out _ (List.getElem_mem (show i<(sizesF s l).length by have:=hmem.1;omega))
     omega
    have htl:ts.length=l.length:=hmem.1.trans HI.out.2.2
    have hsl:=HR2.out.1.box.sl (F:=(·<wr.heap.size)) (gS HR2.out.1.box).1 (by unfold maxLen;omega) hle
    have hcl:=clone_Int (nats ts) _ wr hsl (by rw [nats_length];omega)
    have HCL:=Lh hcl
    have HMM:=Lh (aI hmem hle)
    have HJL:=Lh (aI hjl hkj)
    simp only [SlA.val,nats_length,htl] at HCL
    have HTL:=Lh htl
    clear hmem hle hsl hcl hjl htj hkj htl
    gi_wp2_with fail
    refine ⟨trivial,rfl,(callsIn_wide.2 HCL.out).mono ?_⟩
    rintro e w1 ⟨v,r,rfl,hown,hnew,hb⟩
    obtain ⟨xc,hv,hxc⟩:=hown.sl (G:=fun k=>r=some k) (fun _ h=>h.elim) (fun k hk=>hk) (by rw [widths_map Int.flatT];simp)
    simp only [List.length_map,nats_length,HTL.out] at hv
    subst hv
    have hSS:∀ k,r=some k->W.heap.size<=k/\k<w1.heap.size/\¬ T1 k:=fun k hk=>by
     have h1:=hnew k hk
     have h2:=HR2.out.1.mod.size
     exact ⟨by omega,hown.row_lt hk,fun h=>by have:=HR2.out.1.lt HT.out k h;omega⟩
    have hS2:∀ k,r=some k->W.heap.size<=k/\k<w1.heap.size/\k ≠ W.heap.size:=fun k hk=>by
     have h1:=hnew k hk
     have h2:=(gS HR2.out.1.box).1
     exact ⟨(hSS k hk).1,(hSS k hk).2.1,by omega⟩
    have R1:TuB 3 J T T1 W w1 j W.heap.size ts:=HR2.out.1.own HJ.out (Chalk.Mod.of_below hb) ((hb.block _ (gS HR2.out.1.box).1).trans HR2.out.1.box)
    have hE:tupE (sizesF s l) j #[.slice xc.a l.length xc.cap] (fun k=>r=some k) w1:=⟨xc,by rw [HI.out.2.2],by rw [HR2.out.2];exact hxc⟩
    obtain ⟨fn,tmps,assign,body,hy,hRd⟩:=HY.out j T1 w1 #[.slice xc.a l.length xc.cap] (fun k=>r=some k) HJL.out.1 R1.inv (R1.lt HT.out) hSS hE rfl
    have HRR:=Lh hRd
    have HR1:=Lh (aI R1 hS2)
    have hnx:=tuples_next (sizesF s l) HPS.out j ts HR2.out.2
    have HNX:=Lh hnx
    clear hRd R1 hSS hS2 hE hb hnew hown hxc hnx
    simp only [SlA.val]
    gi_wp2_with fail
    refine ⟨rfl,HRR.out.mono ?_⟩
    rintro e W2 ⟨T2,he,hm,⟨rfl,hj2⟩ | ⟨rfl,hj2⟩ | ⟨ch,rfl,hjp⟩⟩
    rotate_left
    ·have HR3:=Lh (HR1.out.1.round HR1.out.2 he hm hj2)
     clear he hm hj2 hy
     gi_wp2_with fail
     go_end0
     exact ⟨T2,HR3.out.ext,HR3.out.mod,.inl ⟨⟨_,rfl⟩,.inr ⟨j+1,by omega,by have:=HJL.out.1;omega,HR3.out.inv⟩⟩⟩
    ·have HR3:=Lh (HR1.out.1.round (J2:=fun _=>Jp ch) (j2:=0) HR1.out.2 he hm hjp)
     clear he hm hjp hy
     exact ⟨rfl,T2,HR3.out.ext,HR3.out.mod,.inr ⟨ch,rfl,HR3.out.inv⟩⟩
    ·have HR3:=Lh (HR1.out.1.round HR1.out.2 he hm hj2)
     clear he hm hj2 hy HRR
     gi_wp2_with fail
     gi_loopg [7] l.length (fun k s7 wr2=>s7=.int .i64 ((k:Int) - 1)/\k<=l.length/\Hid (TuB 3 J T T2 W wr2 (j+1) W.heap.size (ts.take k++List.replicate (l.length - k) 0))/\Hid (∀ (q:Nat) (h:q<(sizesF s l).length) (h':q<ts.length),k<=q->ts[q]+1=(sizesF s l)[q]))
     case atStart =>
      refine ⟨by go_num,Nat.le_refl _,Lh ?_,Lh (fun q h h' hk=>by have:=HTL.out;omega)⟩
      rw [Nat.sub_self,List.replicate_zero,List.append_nil,List.take_of_length_le (by have:=HTL.out;omega)]
      exact HR3.out
     case round =>
      obtain ⟨rfl,hkn,HI3,HQ3⟩:=hrel
      cases gk with
      | zero =>
       have hnone:nextT (sizesF s l) ts=none:=nextT_none (sizesF s l) ts (HTL.out.trans HI.out.2.2.symm).symm (fun p h h'=>HQ3.out p h h' (Nat.zero_le _))
       have HE:Hid (j+1=(tuplesF (sizesF s l)).length):=Lh (by
        have h1:=HNX.out
        rw [hnone] at h1
        have:=List.getElem?_eq_none_iff.1 h1
        have:=HJL.out.1
        omega)
       clear hnone
       gi_wp2_with fail
       go_end0
       refine ⟨T2,HI3.out.ext,HI3.out.mod,.inl ⟨⟨_,rfl⟩,.inl ?_⟩⟩
       rw [<- HE.out];exact HI3.out.inv
      | succ q =>
       have hqi:(((q+1:Nat):Int) - 1)=(q:Int):=by omega
       rw [hqi]
       have hqn:(q:Int)<(l.length:Int):=by omega
       have hqs:q<(sizesF s l).length:=by have:=HI.out.2.2;omega
       have htq:q<ts.length:=by have:=HTL.out;omega
       have hlen:(ts.take (q+1)++List.replicate (l.length - (q+1)) 0).length=l.length:=by have:=HTL.out;simp;omega
       have c0:wr.cell? ⟨W.heap.size,q,none⟩=some (.int .i64 (ts[q]:Nat)):=by
        have:=HI3.out.box.cell q (by rw [hlen];omega)
        rw [tup_get HTL.out (by omega)] at this
        exact this
       have hfz:wr.frozen? ⟨W.heap.size,q,none⟩=false:=fH HI3.out.box
       have hblt:W.heap.size<wr.heap.size:=(gS HI3.out.box).1
       have hub:ts[q]<=2000000:=HMM.out.2 _ (List.getElem_mem htq)
       have hA:=HI3.out.mod.agree HD.out
       have hRR:=HR.out.agree hA
       obtain ⟨lf,hmB⟩:=HKW.out _ _ _ HI3.out.inv
       obtain ⟨m0,m1,m2,m3,m4,_,_⟩:=hmB.cells
       have hmlt:=hmB.lt
       have hp:wr.cell? ⟨mp,0,none⟩=some (.pointer (some ⟨mb,0,none⟩)):=cH hRR.mbox rfl
       have hlx:wr.cell? ⟨lb,0,none⟩=some (.slice ya.a l.length ya.cap):=cH hRR.lbox rfl
       have hpne:mp ≠ W.heap.size:=by have:=(HD.out mp (.inr (.inr rfl))).1;omega
       have hlne:lb ≠ W.heap.size:=by have:=(HD.out lb (.inr (.inl rfl))).1;omega
       have hmne:mb ≠ W.heap.size:=by
        rintro rfl
        have h1:=hmB
        have h2:=HI3.out.box
        unfold MkB at h1;unfold TB at h2
        rw [h2] at h1
        simp at h1
       obtain ⟨g1,_,_,g4,_⟩:=hRR.bnds.flat Bnd.flatT
       obtain ⟨hxa,hFb⟩:=g1 (by omega)
       have hbne:ya.b ≠ W.heap.size:=by have:=(HD.out _ (.inl hFb)).1;omega
       obtain ⟨e0,e1⟩:=g4.two q (by omega) rfl
       have hlc:=HMM.out.1.2 q htq hqs
       have hxq:=hxa
       rw [hxa] at hlx
       have hylt:ya.b<wr.heap.size:=by have:=(HD.out _ (.inl hFb)).1;have:=HI3.out.mod.size;omega
       have hllt:lb<wr.heap.size:=(gS hRR.lbox).1
       have hplt:mp<wr.heap.size:=(gS hRR.mbox).1
       obtain ⟨u,hu⟩:∃ u,ts[q]=u:=⟨_,rfl⟩
       obtain ⟨c,hc⟩:∃ c,(sizesF s l)[q]=c:=⟨_,rfl⟩
       obtain ⟨be,hbe⟩:∃ be,l[q]'(by omega)=be:=⟨_,rfl⟩
       obtain ⟨Wx,hWx⟩:∃ Wx,wr.setCell ⟨W.heap.size,q,none⟩ (.int .i64 ((u:Int)+1))=Wx:=⟨_,rfl⟩
       have hm1:Chalk.Mod (fun k=>k=W.heap.size) wr Wx:=by rw [<- hWx];exact (Chalk.Mod.refl (fun k=>k=W.heap.size) wr).setCell (p:=⟨W.heap.size,q,none⟩) (fun _=>rfl) _
       have hbx:TB 3 Wx W.heap.size ((ts.take (q+1)++List.replicate (l.length - (q+1)) 0).set q (u+1)):=by rw [<- hWx];exact TB.store (W:=wr) HI3.out.box q (u+1)
       have hct:=HCT.out q (by omega) Wx.drew (hA.trans (hm1.drew.agree (fun k hk=>by have:=(HD.out k hk).1;exact ⟨by omega,by omega⟩))) (by have:=hm1.drew.size;omega)
       have hzx:Wx.heap.size=wr.heap.size:=by rw [<- hWx];simp
       have oth:∀ (b o:Nat) (v:Value),b ≠ W.heap.size->b<wr.heap.size->wr.cell? ⟨b,o,none⟩=some v->∀ W',Below Wx.heap.size Wx W'->W'.cell? ⟨b,o,none⟩=some v:=fun b o v hne hlt h W' hb =>
        (hb.cell (p:=⟨b,o,none⟩) (by show b<_;omega)).trans ((World.cell?_of_block (by rw [<- hWx];exact set_heap_other hne)).trans h)
       have hc9:Wx.cell? ⟨W.heap.size,q,none⟩=some (.int .i64 ((u:Int)+1)):=by
        have h2:=hbx.cell q (by simp;have:=HTL.out;omega)
        simpa using h2
       rw [hbe] at e0 e1 hct
       rw [hc] at hct hlc
       rw [hu] at c0 hub hlc
       have HU:=Lh (aI hu (aI hc (aI hqs htq)))
       clear hu hc hbe g1 g4 hFb hRR hmB hA hqi hlen
       obtain ⟨nm,so⟩:=be
       simp only at e0 e1 hct
       have HX:Hid (∀ w',Below Wx.heap.size Wx w'->w'.cell? ⟨W.heap.size,q,none⟩=some (.int .i64 ((u:Int)+1))/\w'.cell? ⟨mp,0,none⟩=some (.pointer (some ⟨mb,0,none⟩))/\w'.cell? ⟨mb,0,none⟩=some (.slice x.slots.a s.slots.length x.slots.cap)/\w'.cell? ⟨mb,1,none⟩=some (.slice x.rooms.a s.rooms.length x.rooms.cap)/\w'.cell? ⟨mb,2,none⟩=some (.slice x.people.a s.people.length x.people.cap)/\w'.cell? ⟨mb,3,none⟩=some (.slice x.groups.a s.groups.length x.groups.cap)/\w'.cell? ⟨mb,4,none⟩=some (.slice x.lessons.a s.lessons.length x.lessons.cap)/\w'.cell? ⟨lb,0,none⟩=some (.slice (some ⟨ya.b,ya.o,none⟩) l.length ya.cap)/\w'.cell? ⟨ya.b,ya.o+q*2+1,none⟩=some (.int .i64 so)):=Lh (fun w' hb =>
        ⟨(hb.cell (p:=⟨W.heap.size,q,none⟩) (by show W.heap.size<_;omega)).trans hc9,oth mp 0 _ hpne hplt hp w' hb,oth mb 0 _ hmne hmlt m0 w' hb,oth mb 1 _ hmne hmlt m1 w' hb,oth mb 2 _ hmne hmlt m2 w' hb,oth mb 3 _ hmne hmlt m3 w' hb,oth mb 4 _ hmne hmlt m4 w' hb,oth lb 0 _ hlne hllt hlx w' hb,oth ya.b (ya.o+q*2+1) _ hbne hylt e1 w' hb⟩)
       have HN:=Lh (aI hm1 hbx)
       have HC:=Lh hct
       have HXQ:=Lh hxq
       have HBX:=Lh (Below.refl Wx.heap.size Wx).drew
       clear hm1 hbx hct hzx oth hc9 hxq hxa m0 m1 m2 m3 m4 hp hlx e0 e1 hpne hlne hmne hbne hylt hllt hplt hmlt
       by_cases hd:u+1=c
       ·have hcl:¬ ((u:Int)+1<(c:Int)):=by omega
        have HD2:=Lh hd
        clear hd hlc
        gi_wp2_with fail
        try rw [hWx]
        refine wpIn_wide.2 ?_
        go_region_held3 (fun w'=>w'.cell? ⟨W.heap.size,q,none⟩=some (.int .i64 ((u:Int)+1))/\w'.cell? ⟨mp,0,none⟩=some (.pointer (some ⟨mb,0,none⟩))/\w'.cell? ⟨mb,0,none⟩=some (.slice x.slots.a s.slots.length x.slots.cap)/\w'.cell? ⟨mb,1,none⟩=some (.slice x.rooms.a s.rooms.length x.rooms.cap)/\w'.cell? ⟨mb,2,none⟩=some (.slice x.people.a s.people.length x.people.cap)/\w'.cell? ⟨mb,3,none⟩=some (.slice x.groups.a s.groups.length x.groups.cap)/\w'.cell? ⟨mb,4,none⟩=some (.slice x.lessons.a s.lessons.length x.lessons.cap)/\w'.cell? ⟨lb,0,none⟩=some (.slice (some ⟨ya.b,ya.o,none⟩) l.length ya.cap)/\w'.cell? ⟨ya.b,ya.o+q*2+1,none⟩=some (.int .i64 so)) ((refine HX.out _ ?_;first | exact HW.out | exact HBX.out | fail)) (first | (go_at_call 98;refine HC.out.mono ?_;rintro e w' ⟨rfl,hb⟩;have HW:=Lh (HBX.out.trans (hb.mono (Nat.le_refl _)));clear hb) | fail)
        all_goals
         have hbx':=(HW.out.block _ (gS HN.out.2).1).trans HN.out.2
         have hf9:w'.frozen? ⟨W.heap.size,q,none⟩=false:=fH hbx'
         have HBX':=Lh (aI hbx' (HN.out.1.trans (Chalk.Mod.of_below (S:=fun k=>k=W.heap.size) HW.out) (fun _ _ h=>h)))
         clear hbx'
         gi_wp2_with fail
         gi_roundg q
         case measure=>omega
         case rel =>
          refine ⟨by go_num,by omega,Lh ?_,Lh (fun p h h' hqp=>?_)⟩
          ·refine HI3.out.own HJ.out (HBX'.out.2.setCell (p:=⟨W.heap.size,q,none⟩) (fun _=>rfl) _) ?_
           have h1:=TB.store (W:=w') HBX'.out.1 q 0
           rw [List.set_set,tup_zero HTL.out (by omega)] at h1
           exact h1
          ·by_cases hpq:p=q
           ·subst hpq;rw [HU.out.1,HU.out.2.1];exact HD2.out
           ·exact HQ3.out p h h' (by omega)
       ·have hcl:(u:Int)+1<(c:Int):=by omega
        have HD2:=Lh hd
        clear hd hlc
        gi_wp2_with fail
        try rw [hWx]
        refine wpIn_wide.2 ?_
        go_region_held3 (fun w'=>w'.cell? ⟨W.heap.size,q,none⟩=some (.int .i64 ((u:Int)+1))/\w'.cell? ⟨mp,0,none⟩=some (.pointer (some ⟨mb,0,none⟩))/\w'.cell? ⟨mb,0,none⟩=some (.slice x.slots.a s.slots.length x.slots.cap)/\w'.cell? ⟨mb,1,none⟩=some (.slice x.rooms.a s.rooms.length x.rooms.cap)/\w'.cell? ⟨mb,2,none⟩=some (.slice x.people.a s.people.length x.people.cap)/\w'.cell? ⟨mb,3,none⟩=some (.slice x.groups.a s.groups.length x.groups.cap)/\w'.cell? ⟨mb,4,none⟩=some (.slice x.lessons.a s.lessons.length x.lessons.cap)/\w'.cell? ⟨lb,0,none⟩=some (.slice (some ⟨ya.b,ya.o,none⟩) l.length ya.cap)/\w'.cell? ⟨ya.b,ya.o+q*2+1,none⟩=some (.int .i64 so)) ((refine HX.out _ ?_;first | exact HW.out | exact HBX.out | fail)) (first | (go_at_call 98;refine HC.out.mono ?_;rintro e w' ⟨rfl,hb⟩;have HW:=Lh (HBX.out.trans (hb.mono (Nat.le_refl _)));clear hb) | fail)
        all_goals
         have hbx':=(HW.out.block _ (gS HN.out.2).1).trans HN.out.2
         have hf9:w'.frozen? ⟨W.heap.size,q,none⟩=false:=fH hbx'
         have HBX':=Lh (aI hbx' (HN.out.1.trans (Chalk.Mod.of_below (S:=fun k=>k=W.heap.size) HW.out) (fun _ _ h=>h)))
         clear hbx'
         have hnt:=nextT_at (sizesF s l) ts q HU.out.2.2.1 HU.out.2.2.2 (HTL.out.trans HI.out.2.2.symm).symm (fun h=>HD2.out ((congrArg (·+1) HU.out.1).symm.trans (h.trans HU.out.2.1))) (fun p h h' hqp=>HQ3.out p h h' (by omega))
         have HN2:=Lh (HNX.out.trans hnt)
         clear hnt
         gi_wp2_with fail
         gi_roundg ((tuplesF (sizesF s l)).length - (j+1))
         case measure=>have:=HJL.out;omega
         case rel =>
          refine ⟨j+1,T2,ts.take q++[u+1]++List.replicate (l.length - 1 - q) 0,by have:=HJL.out;omega,Lh ⟨?_,?_⟩⟩
          ·refine HI3.out.own HJ.out HBX'.out.2 ?_
           rw [<- tup_up HTL.out (by omega)]
           exact HBX'.out.1
          ·rw [HN2.out,HU.out.1,HTL.out]
theorem rows_any (mb:Nat) (a:Option Addr) (n cap:Nat) (w:World) :
  Calls Tryz.prog 151 #[.pointer (some ⟨mb,0,none⟩),.slice a n cap] w fun e w'=>e=.returned (.func (.func 207) #[] #[.pointer (some ⟨w.heap.size+1,0,none⟩),.pointer (some ⟨w.heap.size,0,none⟩)])/\(w.alloc (.cells #[.pointer (some ⟨mb,0,none⟩)] 83)).alloc (.cells #[.slice a n cap] 31)=w':=by
 have hmf:∀ (fn:Fn) (first cap:Array Value) (w:World),(Instr.makeFunc fn first cap).run Tryz.prog w=.ok (.func fn first cap) w:=fun _ _ _ _=>rfl
 go_enter Tryz.func151,Tryz.ntmps151
 go_wp2_with fail
 go_ret
 exact ⟨rfl,rfl⟩
end Go.Proofs.YtjjkfgjnadaheaaGreatDoor
/- A list in a box grows by an element that is appended as zero and stored behind. No program is named here. -/
namespace Go.Chalk
open Go.RowKit
def put4 (W:World) (g o:Nat) (c0 c1 c2 c3:Value):World:=(((W.setCell ⟨g,o,none⟩ c0).setCell ⟨g,o+1,none⟩ c1).setCell ⟨g,o+2,none⟩ c2).setCell ⟨g,o+3,none⟩ c3
theorem put4_mod (W:World) (g o:Nat) (c0 c1 c2 c3:Value):Mod (fun k=>k=g) W (put4 W g o c0 c1 c2 c3) :=
 ((((Mod.refl (fun k=>k=g) W).setCell (p:=⟨g,o,none⟩) (fun _=>rfl) c0).setCell (p:=⟨g,o+1,none⟩) (fun _=>rfl) c1).setCell (p:=⟨g,o+2,none⟩) (fun _=>rfl) c2).setCell (p:=⟨g,o+3,none⟩) (fun _=>rfl) c3
theorem row_last {w:World} {g cap n:Nat} {e:TypeId} {cs:List Value} {z0 z1 z2 z3:Value} (h:w.ownsRow 0 e 4 (.slice (some ⟨g,0,none⟩) (n+1) cap) (n+1) (cs++[z0,z1,z2,z3])) :
  cs.length=n*4/\∃ cur:Array Value,w.heap[g]?=some (.cells cur e (0,0))/\n+1<=cap/\cap<=maxLen/\cur.size=cap*4/\cur.toList.take ((n+1)*4)=cs++[z0,z1,z2,z3]:=by
 obtain ⟨hl,h | ⟨g',cap',cur,hv,_,hh,h1,h2,h3,h4⟩⟩:=h
 ·cases h.1
 ·cases hv
  exact ⟨by simp at hl;omega,cur,hh,h1,h2,h3,h4⟩
theorem row_cells {w:World} {g cap n:Nat} {e:TypeId} {cs:List Value} {z0 z1 z2 z3:Value} (h:w.ownsRow 0 e 4 (.slice (some ⟨g,0,none⟩) (n+1) cap) (n+1) (cs++[z0,z1,z2,z3])) :
  (w.cell? ⟨g,n*4,none⟩=some z0/\w.cell? ⟨g,n*4+1,none⟩=some z1/\w.cell? ⟨g,n*4+2,none⟩=some z2/\w.cell? ⟨g,n*4+3,none⟩=some z3) /\
  (∀ j,w.frozen? ⟨g,j,none⟩=false)/\g<w.heap.size/\n<cap:=by
 obtain ⟨hl,cur,hh,h1,h2,h3,h4⟩:=row_last h
 have key:∀ j,j<4->cur[n*4+j]?=([z0,z1,z2,z3]:List Value)[j]?:=fun j hj=>by
  have e:=congrArg (fun l:List Value=>l[n*4+j]?) h4
  simp only [List.getElem?_take,if_pos (show n*4+j<(n+1)*4 by omega)] at e
  rw [<- Array.getElem?_toList,e,List.getElem?_append_right (by omega),hl]
  congr 1;omega
 refine ⟨⟨?_,?_,?_,?_⟩,fun j=>fH hh,(gS hh).1,by omega⟩
 ·exact cH hh (by have:=key 0 (by omega);simpa using this)
 ·exact cH hh (by have:=key 1 (by omega);simpa using this)
 ·exact cH hh (by have:=key 2 (by omega);simpa using this)
 ·exact cH hh (by have:=key 3 (by omega);simpa using this)
theorem row_set4 {w:World} {g cap n:Nat} {e:TypeId} {cs:List Value} {z0 z1 z2 z3:Value} (h:w.ownsRow 0 e 4 (.slice (some ⟨g,0,none⟩) (n+1) cap) (n+1) (cs++[z0,z1,z2,z3])) (c0 c1 c2 c3:Value) :
  (put4 w g (n*4) c0 c1 c2 c3).ownsRow 0 e 4 (.slice (some ⟨g,0,none⟩) (n+1) cap) (n+1) (cs++[c0,c1,c2,c3]):=by
 obtain ⟨hl,cur,hh,h1,h2,h3,h4⟩:=row_last h
 have hb:=box_store (i:=n*4+3) c3 (box_store (i:=n*4+2) c2 (box_store (i:=n*4+1) c1 (box_store (i:=n*4) c0 hh)))
 refine ⟨by simp;omega,.inr ⟨g,cap,_,rfl,Nat.zero_le _,hb,h1,h2,by simp [h3],?_⟩⟩
 simp only [Array.toList_setIfInBounds]
 rw [List.take_set,List.take_set,List.take_set,List.take_set,h4]
 rw [List.set_append_right _ _ (by omega),List.set_append_right _ _ (by omega),List.set_append_right _ _ (by omega),List.set_append_right _ _ (by omega)]
 rw [hl,Nat.sub_self,show n*4+1 - n*4=1 by omega,show n*4+2 - n*4=2 by omega,show n*4+3 - n*4=3 by omega]
 rfl
theorem row_kept {w w':World} {g cap n:Nat} {e:TypeId} {cs:List Value} (h:w.ownsRow 0 e 4 (.slice (some ⟨g,0,none⟩) (n+1) cap) (n+1) cs) {S:Nat->Prop} (hm:Mod S w w') (hS:¬ S g):w'.ownsRow 0 e 4 (.slice (some ⟨g,0,none⟩) (n+1) cap) (n+1) cs:=by
 obtain ⟨hl,h | ⟨g',cap',cur,hv,h0,hh,rest⟩⟩:=h
 ·cases h.1
 ·cases hv
  exact ⟨hl,.inr ⟨g,cap,cur,rfl,h0,heap_kept hh hm hS,rest⟩⟩
def BoxMb (W:World) (mb H:Nat) (t e:TypeId) (xs:List D) (T1:Nat->Prop):Prop:=∃ T',(∀ k,T1 k ↔ T' k∨k=mb)/\BoxOwn W H t e 4 H xs T'
theorem BoxMb.mb {W:World} {mb H:Nat} {t e:TypeId} {xs:List D} {T1:Nat->Prop} (h:BoxMb W mb H t e xs T1):T1 mb:=by
 obtain ⟨T',h1,_⟩:=h;exact (h1 _).2 (.inr rfl)
theorem BoxMb.kept {W W':World} {mb H:Nat} {t e:TypeId} {xs:List D} {T1 S:Nat->Prop} (h:BoxMb W mb H t e xs T1) (hm:Mod S W W') (hS:∀ k,S k->¬ T1 k):BoxMb W' mb H t e xs T1:=by
 obtain ⟨T',h1,h2⟩:=h;exact ⟨T',h1,h2.kept hm (fun k hk h=>hS k hk ((h1 k).2 (.inl h)))⟩
theorem each_fin {W wc w7 wf:World} {T1 T':Nat->Prop} {mb H g cap n:Nat} {oa:Option Addr} {ocap:Nat} {r:Option Nat} {xs:List D} {cs tcs:List Value} {t:D} {te tt:TypeId} (hTT:∀ k,T1 k ↔ T' k∨k=mb) (hmbH:mb<H)
  (b2:T' H) (b3:∀ k,r=some k->T' k/\k ≠ H) (b4:∀ k,T' k->H<=k/\k<W.heap.size) (b5:Chalk.Own W (fun k=>T' k/\k ≠ H/\r ≠ some k) te 4 (.slice oa n ocap) r xs) (hcs:DsAt W (fun k=>T' k/\k ≠ H/\r ≠ some k) xs cs)
  (hm:Mod (fun k=>k=mb) W wc) (ht:DAt wc (fun k=>W.heap.size<=k/\k<wc.heap.size) t tcs)
  (hm7:Mod (fun k=>r=some k) wc w7) (hg:r=some g∨g=wc.heap.size) (hg7:g<w7.heap.size) (hf:wf.ownsRow 0 te 4 (.slice (some ⟨g,0,none⟩) (n+1) cap) (n+1) (cs++tcs)) (hxn:xs.length=n)
  (hbox:wf.heap[H]?=some (.cells #[.slice (some ⟨g,0,none⟩) (n+1) cap] tt (0,0))) (hmf:Mod (fun k=>k=g∨k=H) w7 wf) :
  ∃ T2,Ext T1 T2 W wf/\Mod T1 W wf/\BoxMb wf mb H tt te (xs++[t]) T2:=by
 have z1:=hm.size
 have z2:=hm7.size
 have z3:=hmf.size
 have hH:=b4 H b2
 have hgH:g ≠ H:=by
  rcases hg with h | h
  ·exact (b3 g h).2
  ·omega
 have hgw:r=some g∨W.heap.size<=g:=hg.imp id (fun h=>by omega)
 have hgl:H<=g:=by
  rcases hgw with h | h
  ·exact (b4 g (b3 g h).1).1
  ·omega
 have hmW:Mod (fun k=>k=mb∨r=some k∨k=H) W wf:=by
  refine ((hm.mono (T:=fun k=>k=mb∨r=some k∨k=H) (fun _=>.inl)).trans hm7 (fun k _ h=>.inr (.inl h))).trans hmf (fun k hk h=>?_)
  rcases h with h | h
  ·subst h
   rcases hgw with h | h
   ·exact .inr (.inl h)
   ·omega
  ·exact .inr (.inr h)
 have hnew:∀ k,W.heap.size<=k->k<wf.heap.size->k ≠ H:=fun k h _=>by omega
 refine ⟨fun k=>(T' k∨(W.heap.size<=k/\k<wf.heap.size))∨k=mb,fun k hk=>?_,hmW.mono (fun k h=>?_),fun k=>T' k∨(W.heap.size<=k/\k<wf.heap.size),fun _=>Iff.rfl,.slice (some ⟨g,0,none⟩) (n+1) cap,some g,hbox,.inl b2,fun k hk=>?_,fun k hk=>?_,?_⟩
 ·rcases hk with (h | h) | h
  ·exact .inl ((hTT k).2 (.inl h))
  ·exact .inr h
  ·exact .inl ((hTT k).2 (.inr h))
 ·rcases h with h | h | h
  ·exact (hTT k).2 (.inr h)
  ·exact (hTT k).2 (.inl (b3 k h).1)
  ·subst h;exact (hTT _).2 (.inl b2)
 ·cases hk
  refine ⟨?_,hgH⟩
  rcases hgw with h | h
  ·exact .inl (b3 g h).1
  ·exact .inr ⟨h,by omega⟩
 ·rcases hk with h | h
  ·exact ⟨(b4 k h).1,by have:=(b4 k h).2;omega⟩
  ·exact ⟨by omega,h.2⟩
 ·refine ⟨⟨cs++tcs,by rw [List.length_append];simpa [hxn] using hf,DsAt.append ?_ ?_⟩,rfl,fun k hk h=>h.2.2 hk,fun k hk=>?_⟩
  ·refine DsAt.mono (fun k hk=>⟨.inl hk.1,hk.2.1,fun e=>?_⟩) _ _ (DsAt.agree (hmW.agree (fun k hk=>⟨(b4 k hk.1).2,fun h=>?_⟩)) _ _ hcs)
   ·rcases h with h | h | h
    ·have:=(b4 k hk.1).1;omega
    ·exact hk.2.2 h
    ·exact hk.2.1 h
   ·cases e
    rcases hgw with h | h
    ·exact hk.2.2 h
    ·have:=(b4 g hk.1).2;omega
  ·rw [DsAt]
   refine ⟨tcs,[],by simp,?_,by rw [DsAt]⟩
   refine DAt.mono (fun k hk=>⟨.inr ⟨hk.1,by omega⟩,by omega,fun e=>?_⟩) _ _ (DAt.agree (fun k hk=>?_) _ _ ht)
   ·rw [hmf.block k (by omega) (fun h=>?_),hm7.block k hk.2 (fun h=>?_)]
    ·have:=(b4 k (b3 k h).1).2;omega
    ·rcases h with h | h
     ·rcases hg with h' | h'
      ·have:=(b4 g (b3 g h').1).2;omega
      ·omega
     ·omega
   ·cases e
    rcases hg with h | h
    ·have:=(b4 g (b3 g h).1).2;omega
    ·omega
  ·rcases hk.1 with h | h
   ·have:=(b4 k h).2;omega
   ·exact h.2
end Go.Chalk
/- An element is appended as zero: the append, in a region that draws its order. No program is named here. -/
namespace Go.Chalk
open Go.RowKit
variable {P:Program}
theorem step_append_zero {W0:World} {F:Nat->Prop} {ops:Array Oper} {o:Oper} {a:Act} {K:Act->World->Prop} {Q:Exit->Act->World->Prop} {E:Prop} (hgd:o.guard=none) (s x:Operand) (t:TypeId)
  (ho:o.op=.call { callee:=.builtin .append,args:=#[s,x],argTypes:=#[t,t] }) (e:TypeId) (i:TypeInfo) (z:Value) (bytes:Nat) (ht:P.underlying t=some (.slice e)) (hi:P.info? e=some i) (hz:i.zero=some z)
  (hsize:i.size=4) (hby:i.bytes=bytes) (hzs:z.cells.size=4) (oa:Option Addr) (ocap n:Nat) (xs:List D) (r:Option Nat) (zb:Nat) (z0 z1 z2 z3:Value) (tt:TypeId) (hs:a.eval s=.slice oa n ocap) (hx:a.eval x=.slice (some ⟨zb,0,none⟩) 1 1)
  (hv:Chalk.Own W0 F e 4 (.slice oa n ocap) r xs) (hn:xs.length=n) (hzb:W0.heap[zb]?=some (.cells #[z0,z1,z2,z3] tt (0,0))) (ho1:∀ u∈[z0,z1,z2,z3],u.oneCell'=true) (h63:n+1<=maxLen) (hbytes:(n+1)*bytes<=140737488355328)
  (h:∀ g cap cs w7,DsAt W0 F xs cs->w7.ownsRow 0 e 4 (.slice (some ⟨g,0,none⟩) (n+1) cap) (n+1) (cs++[z0,z1,z2,z3])->Mod (fun k=>r=some k) W0 w7->(r=some g∨g=W0.heap.size)->g<w7.heap.size->K (a.put o.dst (.slice (some ⟨g,0,none⟩) (n+1) cap)) w7) :
  if Region.wanted o (yielded ops a.tmps)=true then Oper.wp P o a W0 K Q else E:=by
 have hwn:Region.wanted o (yielded ops a.tmps)=true:=by simp [Region.wanted,hgd]
 rw [if_pos hwn]
 subst hn
 obtain ⟨cs,k1,k2⟩:=hv.cells
 have hnews:∀ j u,[z0,z1,z2,z3][j]?=some u->W0.cell? ((⟨zb,0,none⟩:Addr).add j)=some u:=fun j u hu=>by
  have hc:=cH (i:=j) hzb (v:=u) (by simpa using hu)
  unfold Addr.add
  by_cases h0:j=0
  ·subst h0;simpa using hc
  ·rw [if_neg h0];simpa using hc
 refine wp_append_lies W0 s x t ho 0 e i z 4 bytes ht hi hz hsize hby hzs (by decide) (.slice oa xs.length ocap) xs.length cs hs k1 ⟨zb,0,none⟩ 1 1 [z0,z1,z2,z3] hx rfl hnews ho1 (by omega) h63 hbytes (Nat.zero_le _) _ rfl (fun g cap w' hown hgr hat hlt=>?_)
 exact h g cap cs w' k2 hown (Mod.of_grown hgr (fun k hk=>by rw [<- hv.row];exact hk)) (by rw [<- hv.row];exact hat) hlt
theorem each_end {W wc w7 wf:World} {T1 T':Nat->Prop} {mb H g cap n:Nat} {oa:Option Addr} {ocap:Nat} {r:Option Nat} {xs:List D} {cs:List Value} {z0 z1 z2 z3 c0 c1 c2 c3 v0:Value} {t:D} {te tt:TypeId} (hTT:∀ k,T1 k ↔ T' k∨k=mb) (hmbH:mb<H)
  (b1:W.heap[H]?=some (.cells #[v0] tt (0,0))) (b2:T' H) (b3:∀ k,r=some k->T' k/\k ≠ H) (b4:∀ k,T' k->H<=k/\k<W.heap.size) (b5:Chalk.Own W (fun k=>T' k/\k ≠ H/\r ≠ some k) te 4 (.slice oa n ocap) r xs)
  (hcs:DsAt wc (fun k=>T' k/\k ≠ H/\r ≠ some k) xs cs) (hm:Mod (fun k=>k=mb) W wc) (ht:DAt wc (fun k=>W.heap.size<=k/\k<wc.heap.size) t [c0,c1,c2,c3])
  (hown:w7.ownsRow 0 te 4 (.slice (some ⟨g,0,none⟩) (n+1) cap) (n+1) (cs++[z0,z1,z2,z3])) (hm7:Mod (fun k=>r=some k) wc w7) (hg:r=some g∨g=wc.heap.size) (hg7:g<w7.heap.size) (hxn:xs.length=n)
  (hwf:wf=(put4 w7 g (n*4) c0 c1 c2 c3).setCell ⟨H,0,none⟩ (.slice (some ⟨g,0,none⟩) (n+1) cap)∨wf=put4 (w7.setCell ⟨H,0,none⟩ (.slice (some ⟨g,0,none⟩) (n+1) cap)) g (n*4) c0 c1 c2 c3) :
  (∃ T2,Ext T1 T2 W wf/\Mod T1 W wf/\BoxMb wf mb H tt te (xs++[t]) T2)/\wf.heap[mb]?=wc.heap[mb]?:=by
 have z1':=hm.size
 have hH:=b4 H b2
 have hgH:g ≠ H:=by
  rcases hg with h | h
  ·exact (b3 g h).2
  ·omega
 have hrmb:¬ r=some mb:=fun h=>by have:=(b4 mb (b3 mb h).1).1;omega
 have hgmb:g ≠ mb:=by
  rcases hg with h | h
  ·rintro rfl;exact hrmb h
  ·omega
 have hbc:wc.heap[H]?=some (.cells #[v0] tt (0,0)):=heap_kept b1 hm (by omega)
 have hb7:w7.heap[H]?=some (.cells #[v0] tt (0,0)):=heap_kept hbc hm7 (fun h=>(b3 H h).2 rfl)
 have hcW:DsAt W (fun k=>T' k/\k ≠ H/\r ≠ some k) xs cs:=DsAt.agree (fun k hk=>(hm.block k (b4 k hk.1).2 (by have:=(b4 k hk.1).1;omega)).symm) _ _ hcs
 have hmS:∀ w:World,Mod (fun k=>k=H) w (w.setCell ⟨H,0,none⟩ (.slice (some ⟨g,0,none⟩) (n+1) cap)):=fun w=>(Mod.refl (fun k=>k=H) w).setCell (p:=⟨H,0,none⟩) (fun _=>rfl) _
 have fin:wf.ownsRow 0 te 4 (.slice (some ⟨g,0,none⟩) (n+1) cap) (n+1) (cs++[c0,c1,c2,c3])/\wf.heap[H]?=some (.cells #[.slice (some ⟨g,0,none⟩) (n+1) cap] tt (0,0))/\Mod (fun k=>k=g∨k=H) w7 wf:=by
  rcases hwf with rfl | rfl
  ·refine ⟨row_kept (row_set4 hown c0 c1 c2 c3) (hmS _) hgH,?_,((put4_mod w7 g (n*4) c0 c1 c2 c3).mono (fun _ h=>.inl h)).trans (hmS _) (fun _ _ h=>.inr h)⟩
   have h:=box_store (i:=0) (.slice (some ⟨g,0,none⟩) (n+1) cap) (heap_kept hb7 (put4_mod w7 g (n*4) c0 c1 c2 c3) (fun h=>hgH h.symm))
   exact h
  ·refine ⟨row_set4 (row_kept hown (hmS _) hgH) c0 c1 c2 c3,?_,((hmS _).mono (fun _ h=>.inr h)).trans (put4_mod _ g (n*4) c0 c1 c2 c3) (fun _ _ h=>.inl h)⟩
   have h:=box_store (i:=0) (.slice (some ⟨g,0,none⟩) (n+1) cap) hb7
   exact heap_kept h (put4_mod _ g (n*4) c0 c1 c2 c3) (fun h=>hgH h.symm)
 refine ⟨each_fin hTT hmbH b2 b3 b4 b5 hcW hm ht hm7 hg hg7 fin.1 hxn fin.2.1 fin.2.2,?_⟩
 rw [fin.2.2.block mb (by have:=hm7.size;omega) (by omega),hm7.block mb (by omega) hrmb]
end Go.Chalk
/- ground's trees: the list of the parts as it grows; a node. No program is named here. -/
namespace Go.Chalk
open Go.RowKit
def KidsAt (W:World) (B:Nat) (e:TypeId) (v:Value) (ts:List Tr):Prop:=∃ F,OwnN W B F e 4 v (ts.map Tr.toD)/\∀ k,F k->B<=k
theorem Tr.widths:∀ ts:List Tr,Chalk.widths (ts.map Tr.toD)=ts.length*4
 | []=>rfl
 | t :: r=>by
  have:=Tr.widths r
  have h:=Tr.width t
  simp only [List.map_cons,Chalk.widths,List.length_cons,this,h];omega
theorem KidsAt.nil (W:World) (B:Nat) (e:TypeId):KidsAt W B e (.slice none 0 0) []:=⟨fun _=>False,OwnN.nil _ _ _ _ _ (fun _ h=>h.elim),fun _ h=>h.elim⟩
theorem KidsAt.form {W:World} {B:Nat} {e:TypeId} {v:Value} {ts:List Tr} (h:KidsAt W B e v ts):∃ a cap,v=.slice a ts.length cap:=by
 obtain ⟨F,h1,_⟩:=h
 obtain ⟨a,cap,e⟩:=h1.form
 exact ⟨a,cap,by rw [e,List.length_map]⟩
theorem KidsAt.sl {W:World} {B:Nat} {e:TypeId} {v:Value} {ts:List Tr} (h:KidsAt W B e v ts):∃ u:SlA,v=u.val ts.length/\SlIn W (fun k=>B<=k/\k<W.heap.size) (ts.map Tr.toD) u:=by
 obtain ⟨F,⟨r,h1,h2⟩,h3⟩:=h
 have h4:=h1.read (G:=fun k=>B<=k/\k<W.heap.size) (fun k hk=>⟨h3 k hk,h1.lt k hk⟩) (fun k hk=>⟨h2 k hk,h1.row_lt hk⟩) (by rw [Tr.widths,List.length_map])
 obtain ⟨u,hu,hs⟩:=DAt.sl_iff.1 h4
 simp only [List.cons.injEq,and_true] at hu
 exact ⟨u,by rw [hu,List.length_map],hs⟩
theorem KidsAt.call {Wc W0:World} {B mb:Nat} {e:TypeId} {v:Value} {ts:List Tr} {t:D} {cs:List Value} (h:KidsAt Wc B e v ts) (hm:Mod (fun k=>k=mb) Wc W0) (hmb:mb<B) (hB:B<=Wc.heap.size) (ht:DAt W0 (fun k=>Wc.heap.size<=k/\k<W0.heap.size) t cs) :
  ∃ F,OwnN W0 B F e 4 v (ts.map Tr.toD)/\DsAt W0 F [t] cs/\∀ k,F k->B<=k:=by
 obtain ⟨F,⟨r,h1,h2⟩,h3⟩:=h
 have hz:=hm.size
 refine ⟨fun k=>F k∨(Wc.heap.size<=k/\k<W0.heap.size),⟨r,(h1.kept hm (fun k hk e=>by have:=h3 k hk;omega) (fun k hk e=>by have:=h2 k hk;omega)).widen (fun _=>.inl) (fun k hk hk'=>?_) (fun k hk=>?_),h2⟩,?_,fun k hk=>?_⟩
 ·rcases hk' with h | h
  ·exact h1.off k hk h
  ·have:=h1.row_lt hk;omega
 ·rcases hk with h | h
  ·have:=h1.lt k h;omega
  ·exact h.2
 ·rw [DsAt]
  exact ⟨cs,[],(List.append_nil _).symm,DAt.mono (fun k hk=>.inr hk) _ _ ht,by rw [DsAt]⟩
 ·rcases hk with h | h
  ·exact h3 k h
  ·omega
theorem KidsAt.of {W:World} {B:Nat} {F:Nat->Prop} {e:TypeId} {v:Value} {ts:List Tr} {t:Tr} (h:OwnN W B F e 4 v (ts.map Tr.toD++[t.toD])) (hF:∀ k,F k->B<=k):KidsAt W B e v (ts++[t]):=⟨F,by rw [List.map_append];exact h,hF⟩
theorem KidsAt.kept {W W':World} {B mb:Nat} {e:TypeId} {v:Value} {ts:List Tr} (h:KidsAt W B e v ts) (hm:Mod (fun k=>k=mb) W W') (hmb:mb<B):KidsAt W' B e v ts:=by
 obtain ⟨F,⟨r,h1,h2⟩,h3⟩:=h
 exact ⟨F,⟨r,h1.kept hm (fun k hk e=>by have:=h3 k hk;omega) (fun k hk e=>by have:=h2 k hk;omega),h2⟩,h3⟩
theorem Tr.close {W:World} {F:Nat->Prop} {kind v k:Int} {ts:List Tr} {u:SlA} (h1:I64 kind) (h2:I64 v) (h3:I64 k) (h:SlIn W F (ts.map Tr.toD) u):DAt W F (Tr.mk kind v k ts).toD [.int .i64 kind,.int .i64 v,.int .i64 k,.slice u.a ts.length u.cap]:=by
 have hi:∀ n:Int,I64 n->DAt W F (.int .i64 n) [.int .i64 n]:=fun n hn=>by rw [DAt];exact ⟨rfl,hn.wf⟩
 rw [Tr.toD,DAt,DsAt]
 refine ⟨[_],_,rfl,hi _ h1,?_⟩
 rw [DsAt]
 refine ⟨[_],_,rfl,hi _ h2,?_⟩
 rw [DsAt]
 refine ⟨[_],_,rfl,hi _ h3,?_⟩
 rw [DsAt]
 refine ⟨[_],[],rfl,DAt.sl_iff.2 ⟨u,?_,by rw [Tr.toDs_eq];exact h⟩,by rw [DsAt]⟩
 rw [Tr.toDs_eq,List.length_map]
theorem SlIn.tre {W:World} {F:Nat->Prop} {ts:List Tr} {u:SlA} (h:SlIn W F (ts.map Tr.toD) u) (i:Nat) (hi:i<ts.length) :
  ∃ k0 k1 k2 a n cap,CellsAt W u.b (u.o+i*4) [.int .i64 k0,.int .i64 k1,.int .i64 k2,.slice a n cap]/\DAt W F (ts[i]).toD [.int .i64 k0,.int .i64 k1,.int .i64 k2,.slice a n cap]:=by
 obtain ⟨cs,h1,h2⟩:=h.row.get (sz:=4) (fun d hd=>by obtain ⟨t,_,rfl⟩:=List.mem_map.1 hd;exact t.width) i (by simpa using hi)
 rw [List.getElem_map] at h1
 have hl:=DAt.length _ _ h1
 rw [Tr.width] at hl
 match cs,hl with
 | [c0,c1,c2,c3],_ =>
  obtain ⟨k0,k1,k2,a,n,cap,rfl,rfl,rfl,rfl⟩:=TreeV.shape h1
  exact ⟨k0,k1,k2,a,n,cap,h2,h1⟩
end Go.Chalk
