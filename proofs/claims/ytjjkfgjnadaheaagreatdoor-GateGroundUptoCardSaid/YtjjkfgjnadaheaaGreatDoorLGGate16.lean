/- Joined texts: XMade, XStop. -/
import Derived.Test.YtjjkfgjnadaheaaGreatDoorLGGate11
import Derived.Test.YtjjkfgjnadaheaaGreatDoorLGGate15
import Derived.Test.YtjjkfgjnadaheaaGreatDoorLGGate6
import Derived.Defers
import Derived.Recover
import Derived.RegionTactic
import Derived.Deep.QuietTactic
import Derived.BigQuiet
set_option maxHeartbeats 400000
set_option maxRecDepth 100000
set_option linter.unusedVariables false
set_option linter.unusedSimpArgs false
/- gate's made: its deferred closure; its loop. -/
namespace Go.Proofs.YtjjkfgjnadaheaaGreatDoor
open Go.RowKit Go.Chalk
theorem catch_idle (p4 p5 p6:Addr) (w:World) :
  CallsD Tryz.prog 143 #[.pointer (some p4),.pointer (some p5),.pointer (some p6)] .returning w fun e u' w'=>e=.returned (.tuple #[])/\u'=.returning/\w'=w:=by
 refine callsD_of_wpS Tryz.func143 rfl fun c₀ cs hu=>?_
 apply wpS_seq
 apply wpS_region
 simp [wpOpsS,go_sem,recoverD,hu,Tryz.ntmps143,Exit.thenS]
 refine wpS_of_wp ?_
 go_wp2
 cases c₀
 simp_all [bodyPostS,results,Tryz.results143]

structure Caught (w w':World) (b4 b5 b6:Nat) (code:Int):Prop where
 mod:Chalk.Mod (fun k=>k=b4∨k=b5∨k=b6) w w'
 c4:w'.heap[b4]?=some (.cells #[.slice none 0 0] 90 (0,0))
 c5:w'.heap[b5]?=some (.cells #[.slice none 0 0,.int .i64 0] 142 (0,0))
 c6:w'.heap[b6]?=some (.cells #[.int .i64 code] 40 (0,0))

theorem caught_of {w:World} {b4 b5 b6:Nat} {code:Int} {v4 v5 v5' v6:Value} (o:Obj) (h4:w.heap[b4]?=some (.cells #[v4] 90 (0,0))) (h5:w.heap[b5]?=some (.cells #[v5,v5'] 142 (0,0))) (h6:w.heap[b6]?=some (.cells #[v6] 40 (0,0))) (n45:b4 ≠ b5) (n46:b4 ≠ b6) (n56:b5 ≠ b6) :
  Caught w ((((((w.setCell ⟨b4,0,none⟩ (.slice none 0 0)).setCell ⟨b5,0,none⟩ (.slice none 0 0)).setCell ⟨b5,1,none⟩ (.int .i64 0)).setCell ⟨b6,0,none⟩ (.int .i64 code)).alloc o).drew) b4 b5 b6 code:=by
 have l4:=(gS h4).1
 have l5:=(gS h5).1
 have l6:=(gS h6).1
 have hm:Chalk.Mod (fun k=>k=b4∨k=b5∨k=b6) w ((((w.setCell ⟨b4,0,none⟩ (.slice none 0 0)).setCell ⟨b5,0,none⟩ (.slice none 0 0)).setCell ⟨b5,1,none⟩ (.int .i64 0)).setCell ⟨b6,0,none⟩ (.int .i64 code)) :=
  ((((Chalk.Mod.refl _ w).setCell (p:=⟨b4,0,none⟩) (fun _=>.inl rfl) _).setCell (p:=⟨b5,0,none⟩) (fun _=>.inr (.inl rfl)) _).setCell (p:=⟨b5,1,none⟩) (fun _=>.inr (.inl rfl)) _).setCell (p:=⟨b6,0,none⟩) (fun _=>.inr (.inr rfl)) _
 have hs:=hm.size
 refine ⟨(hm.alloc o).drew,?_,?_,?_⟩
 ·show (World.alloc _ o).heap[b4]?=_
  rw [Below.heap_alloc _ _ _ (by omega),Below.heap_setCell _ _ _ _ n46,Below.heap_setCell _ _ _ _ n45,Below.heap_setCell _ _ _ _ n45,box_store _ h4];rfl
 ·show (World.alloc _ o).heap[b5]?=_
  have h5':(w.setCell ⟨b4,0,none⟩ (.slice none 0 0)).heap[b5]?=some (.cells #[v5,v5'] 142 (0,0)):=by rw [Below.heap_setCell _ _ _ _ (Ne.symm n45)];exact h5
  rw [Below.heap_alloc _ _ _ (by omega),Below.heap_setCell _ _ _ _ n56,box_store _ (box_store _ h5')];rfl
 ·show (World.alloc _ o).heap[b6]?=_
  have h6':(((w.setCell ⟨b4,0,none⟩ (.slice none 0 0)).setCell ⟨b5,0,none⟩ (.slice none 0 0)).setCell ⟨b5,1,none⟩ (.int .i64 0)).heap[b6]?=some (.cells #[v6] 40 (0,0)):=by rw [Below.heap_setCell _ _ _ _ (Ne.symm n56),Below.heap_setCell _ _ _ _ (Ne.symm n56),Below.heap_setCell _ _ _ _ (Ne.symm n46)];exact h6
  rw [Below.heap_alloc _ _ _ (by omega),box_store _ h6'];rfl

theorem catch_panicking (b4 b5 b6:Nat) (code:Int) (a4 a5:Option Addr) (n4 k4 n5 k5:Nat) (x5 x6:Int) (w:World) (h4:w.heap[b4]?=some (.cells #[.slice a4 n4 k4] 90 (0,0))) (h5:w.heap[b5]?=some (.cells #[.slice a5 n5 k5,.int .i64 x5] 142 (0,0))) (h6:w.heap[b6]?=some (.cells #[.int .i64 x6] 40 (0,0))) (n45:b4 ≠ b5) (n46:b4 ≠ b6) (n56:b5 ≠ b6) :
  CallsD Tryz.prog 143 #[.pointer (some ⟨b4,0,none⟩),.pointer (some ⟨b5,0,none⟩),.pointer (some ⟨b6,0,none⟩)] (.panicking [{ v:=.iface 212 (.agg #[.int .i64 code]),recovered:=false }]) w fun e u' w' =>
   e=.returned (.tuple #[])/\u'=.panicking [{ v:=.iface 212 (.agg #[.int .i64 code]),recovered:=true }]/\Caught w w' b4 b5 b6 code:=by
 have l4:=(gS h4).1
 have l5:=(gS h5).1
 have l6:=(gS h6).1
 have c4:w.cell? ⟨b4,0,none⟩=some (.slice a4 n4 k4):=cH h4 rfl
 have c5:w.cell? ⟨b5,0,none⟩=some (.slice a5 n5 k5):=cH h5 rfl
 have c5':w.cell? ⟨b5,1,none⟩=some (.int .i64 x5):=cH h5 rfl
 have c6:w.cell? ⟨b6,0,none⟩=some (.int .i64 x6):=cH h6 rfl
 have f4:w.frozen? ⟨b4,0,none⟩=false:=fH h4
 have f5:w.frozen? ⟨b5,0,none⟩=false:=fH h5
 have f5':w.frozen? ⟨b5,1,none⟩=false:=fH h5
 have f6:w.frozen? ⟨b6,0,none⟩=false:=fH h6
 have H4:=Lh h4
 have H5:=Lh h5
 have H6:=Lh h6
 clear h4 h5 h6
 have hta:∀ W:World,(Instr.typeAssert (.iface 212 (.agg #[.int .i64 code])) 20 212 true).run Tryz.prog W=.ok (.tuple #[.agg #[.int .i64 code],.bool true]) W:=fun W=>by rfl
 refine callsD_of_wpS Tryz.func143 rfl fun c₀ cs hu=>?_
 apply wpS_seq
 apply wpS_region
 simp [wpOpsS,go_sem,recoverD,hu,Tryz.ntmps143,Exit.thenS]
 refine wpS_of_wp ?_
 rw [show (Array.replicate 12 undef:Array Value)=#[undef,undef,undef,undef,undef,undef,undef,undef,undef,undef,undef,undef] from rfl]
 simp only [List.setIfInBounds_toArray,List.set_cons_zero,List.set_cons_succ,List.append_toArray,List.cons_append,List.nil_append]
 go_wp2
 go_region
 all_goals
  go_wp2
  exact ⟨rfl,_,rfl,.tuple #[],by simp [results,Tryz.results143],rfl,rfl,caught_of _ H4.out H5.out H6.out n45 n46 n56⟩

end Go.Proofs.YtjjkfgjnadaheaaGreatDoor
/- 'lits = append(lits, m.literal(t))' of gate's made, where literal panics: the region draws its order. -/
namespace Go.Proofs.YtjjkfgjnadaheaaGreatDoor
open Go.RowKit Go.Chalk
structure StopInv (a0:Act) (W:World) (mb:Nat) (x:Value) (listed:Array Bool) (a:Act) (w:World):Prop where
 w0:w=W
 sz:a.tmps.size=a0.tmps.size
 df:a.defers=a0.defers
 far:∀ t,t<47->slot a t=slot a0 t
 l3:listed.getD 3 false=false
 s48:listed.getD 1 false=true->slot a 48=.pointer (some ⟨mb,0,none⟩)
 s49:listed.getD 2 false=true->slot a 49=x

theorem StopInv.put {a0 a:Act} {W w:World} {mb:Nat} {x v:Value} {listed:Array Bool} {i d:Nat} (h:StopInv a0 W mb x listed a w) (hi:i<listed.size) (hd:47<=d) (hd2:d<a0.tmps.size) (hi3:i ≠ 3)
  (h1:(i=0/\d=47)∨(i=1/\d=48/\v=.pointer (some ⟨mb,0,none⟩))∨(i=2/\d=49/\v=x)):StopInv a0 W mb x (listed.setIfInBounds i true) (a.put (some d) v) w:=by
 obtain ⟨w0,sz,df,far,l3,s48,s49⟩:=h
 have hd':d<a.tmps.size:=by omega
 refine ⟨w0,by simp [Act.put,sz],df,fun t ht=>by rw [slot_put hd',if_neg (by omega)];exact far t ht,by rw [getD_setX hi,if_neg (by omega)];exact l3,?_,?_⟩
 ·intro h
  rw [getD_setX hi] at h
  rw [slot_put hd']
  rcases h1 with ⟨rfl,rfl⟩ | ⟨rfl,rfl,rfl⟩ | ⟨rfl,rfl,rfl⟩
  ·rw [if_neg (by omega)];exact s48 (by simpa using h)
  ·rw [if_pos rfl]
  ·rw [if_neg (by omega)];exact s48 (by simpa using h)
 ·intro h
  rw [getD_setX hi] at h
  rw [slot_put hd']
  rcases h1 with ⟨rfl,rfl⟩ | ⟨rfl,rfl,rfl⟩ | ⟨rfl,rfl,rfl⟩
  ·rw [if_neg (by omega)];exact s49 (by simpa using h)
  ·rw [if_neg (by omega)];exact s49 (by simpa using h)
  ·rw [if_pos rfl]

theorem stop_region {id:Nat} {ops:Array Oper} {Q:Exit->Act->World->Prop} {a0:Act} {W:World} {mb b4 b9:Nat} {v4:Value} {k0 k1 k2:Int} {a1:Option Addr} {n1 cap1:Nat} {S:Nat->Prop} (hops:ops.size=7)
  (p0:∃ p,ops[0]?=some ⟨some 47,.load 90 (.tmp 4),90,p,#[],none⟩)
  (p1:∃ p,ops[1]?=some ⟨some 48,.move (.tmp 7),206,p,#[],none⟩)
  (p2:∃ p,ops[2]?=some ⟨some 49,.load 39 (.tmp 9),39,p,#[],none⟩)
  (p3:∃ p,ops[3]?=some ⟨some 50,.call { callee:=.value (.func 146),args:=#[.tmp 48,.tmp 49],argTypes:=#[206,39] },3,p,#[⟨1,.data⟩,⟨2,.data⟩],none⟩)
  (p4:∃ o p,ops[4]?=some ⟨some 51,o,90,p,#[⟨3,.data⟩],none⟩)
  (p5:∃ o p,ops[5]?=some ⟨some 52,o,90,p,#[⟨0,.data⟩,⟨4,.data⟩,⟨3,.chain⟩],none⟩)
  (p6:∃ o p,ops[6]?=some ⟨none,o,0,p,#[⟨5,.data⟩,⟨5,.chain⟩,⟨0,.phase⟩,⟨1,.phase⟩,⟨2,.phase⟩,⟨3,.phase⟩,⟨4,.phase⟩,⟨5,.phase⟩],none⟩)
  (hsz:52<a0.tmps.size) (h4:slot a0 4=.pointer (some ⟨b4,0,none⟩)) (h7:slot a0 7=.pointer (some ⟨mb,0,none⟩)) (h9:slot a0 9=.pointer (some ⟨b9,0,none⟩))
  (c4:W.cell? ⟨b4,0,none⟩=some v4) (y0:W.cell? ⟨b9,0,none⟩=some (.int .i64 k0)) (y1:W.cell? ⟨b9,1,none⟩=some (.int .i64 k1)) (y2:W.cell? ⟨b9,2,none⟩=some (.int .i64 k2)) (y3:W.cell? ⟨b9,3,none⟩=some (.slice a1 n1 cap1))
  (hlit:Calls Tryz.prog 146 #[.pointer (some ⟨mb,0,none⟩),.agg #[.int .i64 k0,.int .i64 k1,.int .i64 k2,.slice a1 n1 cap1]] W.drew (Stops S W.drew))
  (hQ:∀ a w',a.defers=a0.defers->(∀ t,t<47->slot a t=slot a0 t)->Chalk.Mod S W.drew w'->Q (.panic [{ v:=.iface 212 (.agg #[.int .i64 2]),recovered:=false }]) a w') :
  (Code.region id ops true).wp Tryz.prog Q a0 W:=by
 refine region_inv (by kernel_rfl) (StopInv a0 W.drew mb (.agg #[.int .i64 k0,.int .i64 k1,.int .i64 k2,.slice a1 n1 cap1])) ?_ ?_ ?_
 ·have e:∀ k,(Array.replicate ops.size false).getD k false=false:=fun k=>by
   simp only [Array.getD_eq_getD_getElem?,Array.getElem?_replicate];split <;> rfl
  exact ⟨rfl,rfl,rfl,fun _ _=>rfl,e 3,(fun h=>absurd h (by rw [e];simp)),(fun h=>absurd h (by rw [e];simp))⟩
 ·rintro listed a w i R hls hri
  obtain ⟨hi1,hi2,op,hop,hdep⟩:=Go.Chalk.mem_ready hri
  clear hri
  rw [hops] at hls hi1
  have hlt:i<listed.size:=by omega
  obtain rfl:=R.w0
  have e4:a.tmps[4]?.getD undef=.pointer (some ⟨b4,0,none⟩):=(slot_get a 4).trans ((R.far 4 (by omega)).trans h4)
  have e7:a.tmps[7]?.getD undef=.pointer (some ⟨mb,0,none⟩):=(slot_get a 7).trans ((R.far 7 (by omega)).trans h7)
  have e9:a.tmps[9]?.getD undef=.pointer (some ⟨b9,0,none⟩):=(slot_get a 9).trans ((R.far 9 (by omega)).trans h9)
  have hcs:i=0∨i=1∨i=2∨i=3∨i=4∨i=5∨i=6:=by omega
  rcases hcs with rfl | rfl | rfl | rfl | rfl | rfl | rfl
  ·obtain ⟨p,hp⟩:=p0
   rw [hp] at hop;cases hop
   refine wpOp_of hp rfl ?_
   have hfin:=R.put (i:=0) (d:=47) (v:=v4) hlt (by omega) (by omega) (by omega) (.inl ⟨rfl,rfl⟩)
   clear hdep R hlit hQ hp
   unfold Oper.wp
   go_simp
   exact hfin
  ·obtain ⟨p,hp⟩:=p1
   rw [hp] at hop;cases hop
   refine wpOp_of hp rfl ?_
   have hfin:=R.put (i:=1) (d:=48) hlt (by omega) (by omega) (by omega) (.inr (.inl ⟨rfl,rfl,rfl⟩))
   clear hdep R hlit hQ hp
   unfold Oper.wp
   go_simp
   exact hfin
  ·obtain ⟨p,hp⟩:=p2
   rw [hp] at hop;cases hop
   refine wpOp_of hp rfl ?_
   have hfin:=R.put (i:=2) (d:=49) hlt (by omega) (by omega) (by omega) (.inr (.inr ⟨rfl,rfl,rfl⟩))
   clear hdep R hlit hQ hp
   unfold Oper.wp
   go_simp
   exact hfin
  ·obtain ⟨p,hp⟩:=p3
   rw [hp] at hop;cases hop
   refine wpOp_of hp rfl ?_
   have d1:listed.getD 1 false=true:=hdep ⟨1,.data⟩ (by simp) rfl
   have d2:listed.getD 2 false=true:=hdep ⟨2,.data⟩ (by simp) rfl
   have e48:a.tmps[48]?.getD undef=.pointer (some ⟨mb,0,none⟩):=(slot_get a 48).trans (R.s48 d1)
   have e49:a.tmps[49]?.getD undef=.agg #[.int .i64 k0,.int .i64 k1,.int .i64 k2,.slice a1 n1 cap1]:=(slot_get a 49).trans (R.s49 d2)
   have HLT:=Lh hlit
   have HQ:=Lh hQ
   have HRD:=Lh R.df
   have HRF:=Lh R.far
   clear hdep R hp hlit hQ
   unfold Oper.wp
   go_simp
   refine HLT.out.mono ?_
   rintro e w' ⟨rfl,hm⟩
   exact HQ.out a w' HRD.out HRF.out hm
  ·obtain ⟨o,p,hp⟩:=p4
   rw [hp] at hop;cases hop
   have:=hdep ⟨3,.data⟩ (by simp) rfl
   rw [R.l3] at this;cases this
  ·obtain ⟨o,p,hp⟩:=p5
   rw [hp] at hop;cases hop
   have:=hdep ⟨3,.chain⟩ (by simp) rfl
   rw [R.l3] at this;cases this
  ·obtain ⟨o,p,hp⟩:=p6
   rw [hp] at hop;cases hop
   have:=hdep ⟨3,.phase⟩ (by simp) rfl
   rw [R.l3] at this;cases this
 ·rintro listed a w R hls hr
  exfalso
  have l1:listed.getD 1 false=true:=by
   obtain ⟨p,hp⟩:=p1
   exact ready_nil hr hp hls (by simp)
  have l2:listed.getD 2 false=true:=by
   obtain ⟨p,hp⟩:=p2
   exact ready_nil hr hp hls (by simp)
  have l3:listed.getD 3 false=true:=by
   obtain ⟨p,hp⟩:=p3
   have m1:listed[1]?.getD false=true:=by simpa using l1
   have m2:listed[2]?.getD false=true:=by simpa using l2
   exact ready_nil hr hp hls (by simp [Region.binds,m1,m2])
  rw [R.l3] at l3;cases l3

end Go.Proofs.YtjjkfgjnadaheaaGreatDoor
