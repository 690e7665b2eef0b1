/- Joined texts: XSide, XTwo, XPut, XFresh, XKinds, XLit, XLitRef. -/
import Derived.Test.YtjjkfgjnadaheaaGreatDoorLGGate7
import Derived.Deep.RegionLaw
import Derived.Deep.AppendLies
import Derived.Test.YtjjkfgjnadaheaaGreatDoorLGGate1
import Derived.Deep.CutRange
import Derived.Outline
import Derived.Laws.OwnMore
import Derived.MapKept
set_option maxHeartbeats 1000000
set_option maxRecDepth 100000
set_option linter.unusedVariables false
set_option linter.unusedSimpArgs false
/- Two appends side by side. -/
namespace Go.Proofs.YtjjkfgjnadaheaaGreatDoor
open Go.RowKit Go.Chalk
structure Side (W0 W:World) (A:Nat) (v1 v2 u1 u2:Value) (r1 r2 s1 s2:Nat) (c l:List Int) (least:Int):Prop where
 box:W.heap[A]?=some (.cells #[v1,v2,.int .i64 least] 139 (0,0))
 o1:Chalk.Own W (fun _=>False) 3 1 u1 (some s1) (dints c)
 o2:Chalk.Own W (fun _=>False) 3 1 u2 (some s2) (dints l)
 n12:s1 ≠ s2
 n1:s1 ≠ A
 n2:s2 ≠ A
 mod:Chalk.Mod (fun k=>k=r1∨k=r2) W0 W
 f1:s1=r1∨W0.heap.size<=s1
 f2:s2=r2∨W0.heap.size<=s2
theorem Side.alloc {W0 W:World} {A:Nat} {v1 v2 u1 u2:Value} {r1 r2 s1 s2:Nat} {c l:List Int} {least:Int} (h:Side W0 W A v1 v2 u1 u2 r1 r2 s1 s2 c l least) (o:Obj):Side W0 (W.alloc o) A v1 v2 u1 u2 r1 r2 s1 s2 c l least :=
 ⟨(Below.heap_alloc _ _ _ (gS h.box).1).trans h.box,h.o1.alloc o,h.o2.alloc o,h.n12,h.n1,h.n2,h.mod.alloc o,h.f1,h.f2⟩
theorem Side.drew {W0 W:World} {A:Nat} {v1 v2 u1 u2:Value} {r1 r2 s1 s2:Nat} {c l:List Int} {least:Int} (h:Side W0 W A v1 v2 u1 u2 r1 r2 s1 s2 c l least):Side W0 W.drew A v1 v2 u1 u2 r1 r2 s1 s2 c l least :=
 ⟨h.box,h.o1.below ⟨rfl,rfl,rfl,Nat.le_refl _,fun _ _=>rfl⟩,h.o2.below ⟨rfl,rfl,rfl,Nat.le_refl _,fun _ _=>rfl⟩,h.n12,h.n1,h.n2,h.mod.drew,h.f1,h.f2⟩
theorem Side.start {W:World} {A:Nat} {v1 v2:Value} {r1 r2:Nat} {c l:List Int} {least:Int} (h:LinBox W A 139 3 v1 v2 r1 r2 c l least):Side W W A v1 v2 v1 v2 r1 r2 r1 r2 c l least :=
 ⟨h.box,h.o1,h.o2,h.n12,h.n1,h.n2,Chalk.Mod.refl _ _,.inl rfl,.inl rfl⟩
theorem Side.stored {W0 W:World} {A:Nat} {v1 v2 u1 u2:Value} {r1 r2 s1 s2:Nat} {c l:List Int} {least:Int} (h:Side W0 W A v1 v2 u1 u2 r1 r2 s1 s2 c l least) :
  LinBox ((W.setCell ⟨A,0,none⟩ u1).setCell ⟨A,1,none⟩ u2) A 139 3 u1 u2 s1 s2 c l least/\Chalk.Mod (fun k=>k=r1∨k=r2∨k=A) W0 ((W.setCell ⟨A,0,none⟩ u1).setCell ⟨A,1,none⟩ u2):=by
 have n1:=h.n1
 have n2:=h.n2
 refine ⟨⟨?_,(h.o1.store _ id (by simp;omega)).store _ id (by simp;omega),(h.o2.store _ id (by simp;omega)).store _ id (by simp;omega),h.n12,h.n1,h.n2⟩,?_⟩
 ·rw [box_store _ (box_store _ h.box)];rfl
 ·exact ((h.mod.mono (fun k hk=>by omega)).setCell (p:=⟨A,0,none⟩) (fun _=>.inr (.inr rfl)) _).setCell (p:=⟨A,1,none⟩) (fun _=>.inr (.inr rfl)) _
theorem news_heap {w:World} {t:Nat} {x:Value} {e:TypeId} (h:w.heap[t]?=some (.cells #[x] e (0,0))):∀ j u,[x][j]?=some u->w.cell? ((⟨t,0,none⟩:Addr).add j)=some u:=by
 intro j u hj
 match j,hj with
 | 0,hj=>simp at hj;subst hj;simpa [Addr.add] using cH (i:=0) h rfl
theorem heap_alloc_get' (w:World) (o:Obj) (k:Nat):(w.alloc o).heap[k]?=if k=w.heap.size then some o else w.heap[k]?:=by
 show (w.heap.push o)[k]?=_
 rw [Array.getElem?_push]

end Go.Proofs.YtjjkfgjnadaheaaGreatDoor
/- 's.C, s.L = append(s.C, 1), append(s.L, y)' of gate's put: the region draws its order. -/
namespace Go.Proofs.YtjjkfgjnadaheaaGreatDoor
open Go.RowKit Go.Chalk
theorem wpOp_of {P:Program} {ops:Array Oper} {Q:Exit->Act->World->Prop} {i:Nat} {o:Oper} {K:Act->World->Prop} {a:Act} {w:World} (ho:ops[i]?=some o) (hg:o.guard=none) (h:o.wp P a w K Q):wpOp P ops Q i K a w:=by
 unfold wpOp
 rw [ho]
 simp only []
 rw [if_pos (by simp [Region.wanted,hg])]
 exact .inl h
theorem ready_nil {md:Region.Mode} {ops:Array Oper} {listed:Array Bool} {i:Nat} {o:Oper} (hr:Region.ready md ops listed=[]) (ho:ops[i]?=some o) (hs:listed.size=ops.size)
  (hd:∀ e∈o.after,Region.binds md e=true->listed.getD e.on false=true):listed.getD i false=true:=by
 unfold Region.ready at hr
 have hi:i<ops.size:=(gS ho).1
 have h:=List.filter_eq_nil_iff.1 hr i (by simpa using hi)
 rw [ho] at h
 simp only [Option.map_some,Option.getD_some,Bool.and_eq_true,not_and,Array.all_eq_true',Bool.not_eq_true'] at h
 have hx:listed.getD i true=true:=by
  cases hc:listed.getD i true with
  | true=>rfl
  | false =>
   exfalso
   refine h hc (fun e he=>?_)
   cases hb:Region.binds md e with
   | false=>rfl
   | true=>simpa using hd e he hb
 have hi':i<listed.size:=by omega
 simpa [Array.getD,hi'] using hx

def slot (a:Act) (t:Nat):Value:=a.tmps.getD t undef
theorem slot_put {a:Act} {d:Nat} {v:Value} {t:Nat} (hd:d<a.tmps.size):slot (a.put (some d) v) t=if t=d then v else slot a t:=by
 unfold slot Act.put
 simp only [Array.getD_eq_getD_getElem?,Array.getElem?_setIfInBounds]
 by_cases h:d=t
 ·subst h;simp [hd]
 ·rw [if_neg h,if_neg (fun e=>h e.symm)]
theorem slot_get (a:Act) (t:Nat):a.tmps[t]?.getD undef=slot a t:=by unfold slot;simp
structure Reg (a0:Act) (W0:World) (A:Nat) (v1 v2:Value) (r1 r2:Nat) (c l:List Int) (least y:Int) (L:Nat->Bool) (a:Act) (w:World) (u1 u2:Value) (s1 s2 t1 t2:Nat):Prop where
 sz:a.tmps.size=49
 df:a.defers=a0.defers
 far:∀ t,t<25∨35<t->slot a t=slot a0 t
 s25:L 0=true->slot a 25=.pointer (some ⟨A,0,none⟩)
 s26:L 1=true->slot a 26=v1
 s27:L 2=true->slot a 27=.slice (some ⟨t1,0,none⟩) 1 1
 s28:L 3=true->slot a 28=u1
 s29:L 4=true->slot a 29=.pointer (some ⟨A,1,none⟩)
 s30:L 5=true->slot a 30=v2
 s31:L 6=true->slot a 31=.int .i64 y
 s32:L 7=true->slot a 32=.slice (some ⟨t2,0,none⟩) 1 1
 s33:L 8=true->slot a 33=u2
 s34:L 9=true->slot a 34=.pointer (some ⟨A,0,none⟩)
 s35:L 11=true->slot a 35=.pointer (some ⟨A,1,none⟩)
 q1:L 10=true->L 1=true/\L 3=true
 q2:L 12=true->L 5=true/\L 8=true
 e1:L 3=false->u1=v1
 e2:L 8=false->u2=v2
 box:w.heap[A]?=some (.cells #[if L 10=true then u1 else v1,if L 12=true then u2 else v2,.int .i64 least] 139 (0,0))
 o1:Chalk.Own w (fun _=>False) 3 1 u1 (some s1) (dints (if L 3=true then c++[1] else c))
 o2:Chalk.Own w (fun _=>False) 3 1 u2 (some s2) (dints (if L 8=true then l++[y] else l))
 n12:s1 ≠ s2
 n1:s1 ≠ A
 n2:s2 ≠ A
 mod:Chalk.Mod (fun k=>k=r1∨k=r2∨k=A) W0 w
 f1:s1=r1∨W0.heap.size<=s1
 f2:s2=r2∨W0.heap.size<=s2
 b1:L 2=true->L 3=false->w.heap[t1]?=some (.cells #[.int .i64 1] 3 (0,0))/\t1 ≠ s1/\t1 ≠ s2/\t1 ≠ A
 b2:L 7=true->L 8=false->w.heap[t2]?=some (.cells #[.int .i64 y] 3 (0,0))/\t2 ≠ s1/\t2 ≠ s2/\t2 ≠ A

def RegInv (a0:Act) (W0:World) (A:Nat) (v1 v2:Value) (r1 r2:Nat) (c l:List Int) (least y:Int) (listed:Array Bool) (a:Act) (w:World):Prop :=
 ∃ u1 u2 s1 s2 t1 t2,Reg a0 W0 A v1 v2 r1 r2 c l least y (fun i=>listed.getD i false) a w u1 u2 s1 s2 t1 t2

theorem getD_setX {listed:Array Bool} {i k:Nat} (hi:i<listed.size):(listed.setIfInBounds i true).getD k false=if k=i then true else listed.getD k false:=by
 simp only [Array.getD_eq_getD_getElem?,Array.getElem?_setIfInBounds]
 by_cases h:i=k
 ·subst h;simp [hi]
 ·rw [if_neg h,if_neg (fun e=>h e.symm)]

variable {a0 a:Act} {W0 w:World} {A:Nat} {v1 v2 u1 u2:Value} {r1 r2 s1 s2 t1 t2:Nat} {c l:List Int} {least y:Int} {L:Nat->Bool}
theorem Reg.put1 (R:Reg a0 W0 A v1 v2 r1 r2 c l least y L a w u1 u2 s1 s2 t1 t2) {i d:Nat} {v:Value}
  (h:(i=0/\d=25/\v=.pointer (some ⟨A,0,none⟩))∨(i=1/\d=26/\v=v1)∨(i=4/\d=29/\v=.pointer (some ⟨A,1,none⟩))∨(i=5/\d=30/\v=v2)∨(i=6/\d=31/\v=.int .i64 y)∨(i=9/\d=34/\v=.pointer (some ⟨A,0,none⟩))∨(i=11/\d=35/\v=.pointer (some ⟨A,1,none⟩))) :
  Reg a0 W0 A v1 v2 r1 r2 c l least y (fun k=>if k=i then true else L k) (a.put (some d) v) w u1 u2 s1 s2 t1 t2:=by
 obtain ⟨sz,df,far,s25,s26,s27,s28,s29,s30,s31,s32,s33,s34,s35,q1,q2,e1,e2,box,o1,o2,n12,n1,n2,mod,f1,f2,b1,b2⟩:=R
 have hd:d<a.tmps.size:=by rw [sz];omega
 have hp:∀ t,slot (a.put (some d) v) t=if t=d then v else slot a t:=fun t=>slot_put hd
 refine ⟨by simp [Act.put,sz],df,fun t ht=>by rw [hp,if_neg (by omega)];exact far t ht,?_,?_,?_,?_,?_,?_,?_,?_,?_,?_,?_,?_,?_,?_,?_,?_,?_,?_,n12,n1,n2,mod,f1,f2,?_,?_⟩
 all_goals (clear sz df far n12 n1 n2 mod f1 f2)
 all_goals (rcases h with ⟨rfl,rfl,rfl⟩ | ⟨rfl,rfl,rfl⟩ | ⟨rfl,rfl,rfl⟩ | ⟨rfl,rfl,rfl⟩ | ⟨rfl,rfl,rfl⟩ | ⟨rfl,rfl,rfl⟩ | ⟨rfl,rfl,rfl⟩)
 all_goals ((try simp only [hp]);(try simp);(try first | assumption | exact fun h=>(q1 h).2 | exact fun h=>(q2 h).2))

theorem Reg.build1 (R:Reg a0 W0 A v1 v2 r1 r2 c l least y L a w u1 u2 s1 s2 t1 t2) :
  Reg a0 W0 A v1 v2 r1 r2 c l least y (fun k=>if k=2 then true else L k) (a.put (some 27) (.slice (some ⟨w.heap.size,0,none⟩) 1 1)) (w.alloc (.cells #[.int .i64 1] 3)) u1 u2 s1 s2 w.heap.size t2:=by
 obtain ⟨sz,df,far,s25,s26,s27,s28,s29,s30,s31,s32,s33,s34,s35,q1,q2,e1,e2,box,o1,o2,n12,n1,n2,mod,f1,f2,b1,b2⟩:=R
 have hd:27<a.tmps.size:=by rw [sz];omega
 have hp:∀ t,slot (a.put (some 27) (.slice (some ⟨w.heap.size,0,none⟩) 1 1)) t=if t=27 then .slice (some ⟨w.heap.size,0,none⟩) 1 1 else slot a t:=fun t=>slot_put hd
 have h1:=o1.row_lt rfl
 have h2:=o2.row_lt rfl
 have hA:=(gS box).1
 refine ⟨by simp [Act.put,sz],df,fun t ht=>by rw [hp,if_neg (by omega)];exact far t ht,?_,?_,?_,?_,?_,?_,?_,?_,?_,?_,?_,?_,?_,?_,?_,?_,?_,?_,n12,n1,n2,mod.alloc _,f1,f2,?_,?_⟩
 case refine_16=>exact (Below.heap_alloc _ _ _ hA).trans (by simpa using box)
 case refine_17=>exact (by simpa using o1.alloc _)
 case refine_18=>exact (by simpa using o2.alloc _)
 case refine_19=>exact fun _ _=>⟨by rw [heap_alloc_get',if_pos rfl],by omega,by omega,by omega⟩
 case refine_20 =>
  intro h h'
  obtain ⟨g1,g2⟩:=b2 (by simpa using h) (by simpa using h')
  exact ⟨(Below.heap_alloc _ _ _ (gS g1).1).trans g1,g2⟩
 all_goals (clear sz df far n12 n1 n2 mod f1 f2)
 all_goals ((try simp only [hp]);(try simp);(try first | assumption | exact fun h=>(q1 h).2 | exact fun h=>(q2 h).2))
theorem Reg.build2 (R:Reg a0 W0 A v1 v2 r1 r2 c l least y L a w u1 u2 s1 s2 t1 t2) :
  Reg a0 W0 A v1 v2 r1 r2 c l least y (fun k=>if k=7 then true else L k) (a.put (some 32) (.slice (some ⟨w.heap.size,0,none⟩) 1 1)) (w.alloc (.cells #[.int .i64 y] 3)) u1 u2 s1 s2 t1 w.heap.size:=by
 obtain ⟨sz,df,far,s25,s26,s27,s28,s29,s30,s31,s32,s33,s34,s35,q1,q2,e1,e2,box,o1,o2,n12,n1,n2,mod,f1,f2,b1,b2⟩:=R
 have hd:32<a.tmps.size:=by rw [sz];omega
 have hp:∀ t,slot (a.put (some 32) (.slice (some ⟨w.heap.size,0,none⟩) 1 1)) t=if t=32 then .slice (some ⟨w.heap.size,0,none⟩) 1 1 else slot a t:=fun t=>slot_put hd
 have h1:=o1.row_lt rfl
 have h2:=o2.row_lt rfl
 have hA:=(gS box).1
 refine ⟨by simp [Act.put,sz],df,fun t ht=>by rw [hp,if_neg (by omega)];exact far t ht,?_,?_,?_,?_,?_,?_,?_,?_,?_,?_,?_,?_,?_,?_,?_,?_,?_,?_,n12,n1,n2,mod.alloc _,f1,f2,?_,?_⟩
 case refine_16=>exact (Below.heap_alloc _ _ _ hA).trans (by simpa using box)
 case refine_17=>exact (by simpa using o1.alloc _)
 case refine_18=>exact (by simpa using o2.alloc _)
 case refine_20=>exact fun _ _=>⟨by rw [heap_alloc_get',if_pos rfl],by omega,by omega,by omega⟩
 case refine_19 =>
  intro h h'
  obtain ⟨g1,g2⟩:=b1 (by simpa using h) (by simpa using h')
  exact ⟨(Below.heap_alloc _ _ _ (gS g1).1).trans g1,g2⟩
 all_goals (clear sz df far n12 n1 n2 mod f1 f2)
 all_goals ((try simp only [hp]);(try simp);(try first | assumption | exact fun h=>(q1 h).2 | exact fun h=>(q2 h).2))

theorem Reg.app1 {w1:World} {g cap:Nat} (R:Reg a0 W0 A v1 v2 r1 r2 c l least y L a w u1 u2 s1 s2 t1 t2) (h3:L 3=false) (hA0:A<W0.heap.size)
  (ho:w1.ownsRow 0 3 1 (.slice (some ⟨g,0,none⟩) (c.length+1) cap) (c.length+1) (c.map (Value.int .i64)++[.int .i64 1])) (hg:w.grownBy w1 u1.ownBlock) (hat:u1.ownBlock=some g∨g=w.heap.size) :
  Reg a0 W0 A v1 v2 r1 r2 c l least y (fun k=>if k=3 then true else L k) (a.put (some 28) (.slice (some ⟨g,0,none⟩) (c.length+1) cap)) w1 (.slice (some ⟨g,0,none⟩) (c.length+1) cap) u2 g s2 t1 t2:=by
 obtain ⟨sz,df,far,s25,s26,s27,s28,s29,s30,s31,s32,s33,s34,s35,q1,q2,e1,e2,box,o1,o2,n12,n1,n2,mod,f1,f2,b1,b2⟩:=R
 have hd:28<a.tmps.size:=by rw [sz];omega
 have hp:∀ t,slot (a.put (some 28) (.slice (some ⟨g,0,none⟩) (c.length+1) cap)) t=if t=28 then .slice (some ⟨g,0,none⟩) (c.length+1) cap else slot a t:=fun t=>slot_put hd
 have h10:L 10=false:=by cases h:L 10;rfl;have:=(q1 h).2;rw [h3] at this;cases this
 rw [h3] at o1
 obtain ⟨g1,g2,g3⟩:=Chalk.Own.int_appended (by simpa using o1) (ys:=[1]) (fun x hx=>by simp at hx;subst hx;omega) (by simpa using ho) hg (by rcases hat with h | h;exact .inl h.symm;exact .inr (by rw [h];rfl))
 have hm:Chalk.Mod (fun k=>k=s1) w w1:=g2.mono (fun k hk=>by simpa using hk.symm)
 have hs1:=o1.row_lt rfl
 have hs2:=o2.row_lt rfl
 have hA:=(gS box).1
 have hsz:=mod.size
 have hg':g=s1∨g=w.heap.size:=by
  rcases hat with e | e
  ·rw [o1.row] at e;simp at e;exact .inl e.symm
  ·exact .inr e
 refine ⟨by simp [Act.put,sz],df,fun t ht=>by rw [hp,if_neg (by omega)];exact far t ht,?_,?_,?_,?_,?_,?_,?_,?_,?_,?_,?_,?_,?_,?_,?_,?_,?_,?_,by omega,by omega,n2,mod.trans hm (fun i hi e=>?_),by omega,f2,?_,?_⟩
 case refine_16=>refine (hm.block A hA (fun e=>n1 e.symm)).trans ?_;rw [box];simp [h10]
 case refine_17=>exact (by simpa [Value.ownBlock] using g1)
 case refine_18=>exact (by simpa using o2.kept hm (fun _ e=>e.elim) (fun k hk=>by cases hk;omega))
 case refine_19=>rcases f1 with e' | e';exact .inl (by omega);omega
 case refine_20=>intro _ h';simp at h'
 case refine_21 =>
  intro h h'
  obtain ⟨g1,g2,g3,g4⟩:=b2 (by simpa using h) (by simpa using h')
  have hlt:=(gS g1).1
  exact ⟨(hm.block t2 hlt (by omega)).trans g1,by omega,g3,g4⟩
 all_goals (clear sz df far n12 n1 n2 mod f1 f2)
 all_goals ((try simp only [hp]);(try simp);(try first | assumption | exact fun h=>(q1 h).1 | exact fun h=>(q2 h).2))
theorem Reg.app2 {w1:World} {g cap:Nat} (R:Reg a0 W0 A v1 v2 r1 r2 c l least y L a w u1 u2 s1 s2 t1 t2) (h3:L 8=false) (hA0:A<W0.heap.size) (hy : -9223372036854775808<=y/\y<=9223372036854775807)
  (ho:w1.ownsRow 0 3 1 (.slice (some ⟨g,0,none⟩) (l.length+1) cap) (l.length+1) (l.map (Value.int .i64)++[.int .i64 y])) (hg:w.grownBy w1 u2.ownBlock) (hat:u2.ownBlock=some g∨g=w.heap.size) :
  Reg a0 W0 A v1 v2 r1 r2 c l least y (fun k=>if k=8 then true else L k) (a.put (some 33) (.slice (some ⟨g,0,none⟩) (l.length+1) cap)) w1 u1 (.slice (some ⟨g,0,none⟩) (l.length+1) cap) s1 g t1 t2:=by
 obtain ⟨sz,df,far,s25,s26,s27,s28,s29,s30,s31,s32,s33,s34,s35,q1,q2,e1,e2,box,o1,o2,n12,n1,n2,mod,f1,f2,b1,b2⟩:=R
 have hd:33<a.tmps.size:=by rw [sz];omega
 have hp:∀ t,slot (a.put (some 33) (.slice (some ⟨g,0,none⟩) (l.length+1) cap)) t=if t=33 then .slice (some ⟨g,0,none⟩) (l.length+1) cap else slot a t:=fun t=>slot_put hd
 have h10:L 12=false:=by cases h:L 12;rfl;have:=(q2 h).2;rw [h3] at this;cases this
 rw [h3] at o2
 obtain ⟨g1,g2,g3⟩:=Chalk.Own.int_appended (by simpa using o2) (ys:=[y]) (fun x hx=>by simp at hx;subst hx;omega) (by simpa using ho) hg (by rcases hat with h | h;exact .inl h.symm;exact .inr (by rw [h];rfl))
 have hm:Chalk.Mod (fun k=>k=s2) w w1:=g2.mono (fun k hk=>by simpa using hk.symm)
 have hs1:=o1.row_lt rfl
 have hs2:=o2.row_lt rfl
 have hA:=(gS box).1
 have hsz:=mod.size
 have hg':g=s2∨g=w.heap.size:=by
  rcases hat with e | e
  ·rw [o2.row] at e;simp at e;exact .inl e.symm
  ·exact .inr e
 refine ⟨by simp [Act.put,sz],df,fun t ht=>by rw [hp,if_neg (by omega)];exact far t ht,?_,?_,?_,?_,?_,?_,?_,?_,?_,?_,?_,?_,?_,?_,?_,?_,?_,?_,by omega,n1,by omega,mod.trans hm (fun i hi e=>?_),f1,by omega,?_,?_⟩
 case refine_16=>refine (hm.block A hA (fun e=>n2 e.symm)).trans ?_;rw [box];simp [h10]
 case refine_18=>exact (by simpa [Value.ownBlock] using g1)
 case refine_17=>exact (by simpa using o1.kept hm (fun _ e=>e.elim) (fun k hk=>by cases hk;omega))
 case refine_19=>rcases f2 with e' | e';exact .inr (.inl (by omega));omega
 case refine_21=>intro _ h';simp at h'
 case refine_20 =>
  intro h h'
  obtain ⟨g1,g2,g3,g4⟩:=b1 (by simpa using h) (by simpa using h')
  have hlt:=(gS g1).1
  exact ⟨(hm.block t1 hlt (by omega)).trans g1,g2,by omega,g4⟩
 all_goals (clear sz df far n12 n1 n2 mod f1 f2)
 all_goals ((try simp only [hp]);(try simp);(try first | assumption | exact fun h=>(q1 h).2 | exact fun h=>(q2 h).1))

theorem Reg.store1 (R:Reg a0 W0 A v1 v2 r1 r2 c l least y L a w u1 u2 s1 s2 t1 t2) (h1:L 1=true) (h3:L 3=true) :
  Reg a0 W0 A v1 v2 r1 r2 c l least y (fun k=>if k=10 then true else L k) a (w.setCell ⟨A,0,none⟩ u1) u1 u2 s1 s2 t1 t2:=by
 obtain ⟨sz,df,far,s25,s26,s27,s28,s29,s30,s31,s32,s33,s34,s35,q1,q2,e1,e2,box,o1,o2,n12,n1,n2,mod,f1,f2,b1,b2⟩:=R
 refine ⟨sz,df,far,?_,?_,?_,?_,?_,?_,?_,?_,?_,?_,?_,?_,?_,?_,?_,?_,?_,?_,n12,n1,n2,mod.setCell (p:=⟨A,0,none⟩) (fun _=>.inr (.inr rfl)) _,f1,f2,?_,?_⟩
 case refine_16=>rw [box_store _ box];simp
 case refine_17=>exact (by simpa using o1.store _ id (by simpa using n1))
 case refine_18=>exact (by simpa using o2.store _ id (by simpa using n2))
 case refine_19=>intro _ h';simp [h3] at h'
 case refine_20 =>
  intro h h'
  obtain ⟨g1,g2,g3,g4⟩:=b2 (by simpa using h) (by simpa using h')
  exact ⟨(Below.heap_setCell _ _ _ _ g4).trans g1,g2,g3,g4⟩
 all_goals (clear sz df far n12 n1 n2 mod f1 f2)
 all_goals ((try simp);(try first | assumption | exact fun h=>(q1 h).2 | exact fun h=>(q2 h).1 | exact ⟨h1,h3⟩))
theorem Reg.store2 (R:Reg a0 W0 A v1 v2 r1 r2 c l least y L a w u1 u2 s1 s2 t1 t2) (h1:L 5=true) (h3:L 8=true) :
  Reg a0 W0 A v1 v2 r1 r2 c l least y (fun k=>if k=12 then true else L k) a (w.setCell ⟨A,1,none⟩ u2) u1 u2 s1 s2 t1 t2:=by
 obtain ⟨sz,df,far,s25,s26,s27,s28,s29,s30,s31,s32,s33,s34,s35,q1,q2,e1,e2,box,o1,o2,n12,n1,n2,mod,f1,f2,b1,b2⟩:=R
 refine ⟨sz,df,far,?_,?_,?_,?_,?_,?_,?_,?_,?_,?_,?_,?_,?_,?_,?_,?_,?_,?_,n12,n1,n2,mod.setCell (p:=⟨A,1,none⟩) (fun _=>.inr (.inr rfl)) _,f1,f2,?_,?_⟩
 case refine_16=>rw [box_store _ box];simp
 case refine_17=>exact (by simpa using o1.store _ id (by simpa using n1))
 case refine_18=>exact (by simpa using o2.store _ id (by simpa using n2))
 case refine_20=>intro _ h';simp [h3] at h'
 case refine_19 =>
  intro h h'
  obtain ⟨g1,g2,g3,g4⟩:=b1 (by simpa using h) (by simpa using h')
  exact ⟨(Below.heap_setCell _ _ _ _ g4).trans g1,g2,g3,g4⟩
 all_goals (clear sz df far n12 n1 n2 mod f1 f2)
 all_goals ((try simp);(try first | assumption | exact fun h=>(q1 h).2 | exact fun h=>(q2 h).1 | exact ⟨h1,h3⟩))

theorem slot_far (R:Reg a0 W0 A v1 v2 r1 r2 c l least y L a w u1 u2 s1 s2 t1 t2) (t:Nat) (ht:t<25∨35<t):a.eval (.tmp t)=slot a0 t:=R.far t ht
theorem inv_of {listed:Array Bool} {i:Nat} (hi:i<listed.size) (R:Reg a0 W0 A v1 v2 r1 r2 c l least y (fun k=>if k=i then true else listed.getD k false) a w u1 u2 s1 s2 t1 t2):RegInv a0 W0 A v1 v2 r1 r2 c l least y (listed.setIfInBounds i true) a w:=by
 refine ⟨u1,u2,s1,s2,t1,t2,?_⟩
 have e:(fun k=>(listed.setIfInBounds i true).getD k false)=(fun k=>if k=i then true else listed.getD k false):=funext fun k=>getD_setX hi
 rw [e];exact R

theorem slot_some {a:Act} {t:Nat} (h:t<a.tmps.size):a.tmps[t]?=some (slot a t):=by
 unfold slot;simp [h]
theorem act_ext {a:Act} {ts:Array Value} {ds:List Deferred} (h:a.tmps=ts) (h2:a.defers=ds):a=⟨ts,ds⟩:=by subst h;subst h2;rfl
theorem frame_eq (hsz:a.tmps.size=49) (hsz0:a0.tmps.size=49) (hdf:a.defers=a0.defers) (far:∀ t,t<25∨35<t->slot a t=slot a0 t) :
  a=⟨(((((((((((a0.tmps.setIfInBounds 25 (slot a 25)).setIfInBounds 26 (slot a 26)).setIfInBounds 27 (slot a 27)).setIfInBounds 28 (slot a 28)).setIfInBounds 29 (slot a 29)).setIfInBounds 30 (slot a 30)).setIfInBounds 31 (slot a 31)).setIfInBounds 32 (slot a 32)).setIfInBounds 33 (slot a 33)).setIfInBounds 34 (slot a 34)).setIfInBounds 35 (slot a 35)),a0.defers⟩:=by
 have key:a.tmps=(((((((((((a0.tmps.setIfInBounds 25 (slot a 25)).setIfInBounds 26 (slot a 26)).setIfInBounds 27 (slot a 27)).setIfInBounds 28 (slot a 28)).setIfInBounds 29 (slot a 29)).setIfInBounds 30 (slot a 30)).setIfInBounds 31 (slot a 31)).setIfInBounds 32 (slot a 32)).setIfInBounds 33 (slot a 33)).setIfInBounds 34 (slot a 34)).setIfInBounds 35 (slot a 35)):=by
  apply Array.ext_getElem?
  intro t
  by_cases hlt:t<49
  ·rw [slot_some (by omega)]
   simp only [Array.getElem?_setIfInBounds,Array.size_setIfInBounds,hsz0]
   by_cases hf:t<25∨35<t
   ·rw [if_neg (by omega)];rw [if_neg (by omega)];rw [if_neg (by omega)];rw [if_neg (by omega)];rw [if_neg (by omega)];rw [if_neg (by omega)];rw [if_neg (by omega)];rw [if_neg (by omega)];rw [if_neg (by omega)];rw [if_neg (by omega)];rw [if_neg (by omega)];
    rw [slot_some (by omega),far t hf]
   ·have hcs:t=25∨t=26∨t=27∨t=28∨t=29∨t=30∨t=31∨t=32∨t=33∨t=34∨t=35:=by omega
    rcases hcs with rfl | rfl | rfl | rfl | rfl | rfl | rfl | rfl | rfl | rfl | rfl <;> simp
  ·simp only [Array.getElem?_setIfInBounds,Array.size_setIfInBounds,hsz0]
   rw [if_neg (by omega)];rw [if_neg (by omega)];rw [if_neg (by omega)];rw [if_neg (by omega)];rw [if_neg (by omega)];rw [if_neg (by omega)];rw [if_neg (by omega)];rw [if_neg (by omega)];rw [if_neg (by omega)];rw [if_neg (by omega)];rw [if_neg (by omega)];
   rw [Array.getElem?_eq_none (by omega),Array.getElem?_eq_none (by omega)]
 exact act_ext key hdf

theorem two_region {id:Nat} {ops:Array Oper} {Q:Exit->Act->World->Prop} (hops:ops.size=13)
  (p0:∃ p,ops[0]?=some ⟨some 25,.fieldAddr 139 (.tmp 10) 0,0,p,#[],none⟩)
  (p1:∃ p,ops[1]?=some ⟨some 26,.load 90 (.tmp 25),90,p,#[⟨0,.data⟩],none⟩)
  (p2:∃ p,ops[2]?=some ⟨some 27,.buildSlice 90 1 #[(0,.const (.int .i64 1))],90,p,#[],none⟩)
  (p3:∃ p,ops[3]?=some ⟨some 28,.call { callee:=.builtin .append,args:=#[.tmp 26,.tmp 27],argTypes:=#[90,90] },90,p,#[⟨1,.data⟩,⟨2,.data⟩],none⟩)
  (p4:∃ p,ops[4]?=some ⟨some 29,.fieldAddr 139 (.tmp 10) 1,0,p,#[],none⟩)
  (p5:∃ p,ops[5]?=some ⟨some 30,.load 90 (.tmp 29),90,p,#[⟨4,.data⟩],none⟩)
  (p6:∃ p,ops[6]?=some ⟨some 31,.move (.tmp 12),3,p,#[],none⟩)
  (p7:∃ p,ops[7]?=some ⟨some 32,.buildSlice 90 1 #[(0,.tmp 31)],90,p,#[⟨6,.data⟩],none⟩)
  (p8:∃ p,ops[8]?=some ⟨some 33,.call { callee:=.builtin .append,args:=#[.tmp 30,.tmp 32],argTypes:=#[90,90] },90,p,#[⟨5,.data⟩,⟨7,.data⟩,⟨3,.chain⟩],none⟩)
  (p9:∃ p,ops[9]?=some ⟨some 34,.fieldAddr 139 (.tmp 10) 0,0,p,#[⟨0,.phase⟩,⟨1,.phase⟩,⟨2,.phase⟩,⟨3,.phase⟩,⟨4,.phase⟩,⟨5,.phase⟩,⟨6,.textOnly .lateStores⟩,⟨7,.textOnly .lateStores⟩,⟨8,.textOnly .lateStoresUnsure⟩],none⟩)
  (p10:∃ p,ops[10]?=some ⟨none,.store 90 (.tmp 34) (.tmp 28),0,p,#[⟨9,.data⟩,⟨3,.data⟩,⟨8,.chain⟩,⟨0,.phase⟩,⟨1,.phase⟩,⟨2,.phase⟩,⟨3,.phase⟩,⟨4,.phase⟩,⟨5,.phase⟩,⟨6,.textOnly .lateStores⟩,⟨7,.textOnly .lateStores⟩,⟨8,.textOnly .lateStoresUnsure⟩],none⟩)
  (p11:∃ p,ops[11]?=some ⟨some 35,.fieldAddr 139 (.tmp 10) 1,0,p,#[⟨0,.phase⟩,⟨1,.phase⟩,⟨2,.phase⟩,⟨3,.phase⟩,⟨4,.phase⟩,⟨5,.phase⟩,⟨6,.phase⟩,⟨7,.phase⟩,⟨8,.phase⟩,⟨9,.phase⟩,⟨10,.phase⟩],none⟩)
  (p12:∃ p,ops[12]?=some ⟨none,.store 90 (.tmp 35) (.tmp 33),0,p,#[⟨11,.data⟩,⟨8,.data⟩,⟨10,.chain⟩,⟨0,.phase⟩,⟨1,.phase⟩,⟨2,.phase⟩,⟨3,.phase⟩,⟨4,.phase⟩,⟨5,.phase⟩,⟨6,.phase⟩,⟨7,.phase⟩,⟨8,.phase⟩,⟨9,.phase⟩,⟨10,.phase⟩],none⟩)
  (hsz:a0.tmps.size=49) (h10:slot a0 10=.pointer (some ⟨A,0,none⟩)) (h12:slot a0 12=.int .i64 y) (hy : -9223372036854775808<=y/\y<=9223372036854775807)
  (H:LinBox W0 A 139 3 v1 v2 r1 r2 c l least) (hc:c.length<=1000001) (hl:l.length<=1000001)
  (fin:∀ (x25 x26 x27 x28 x29 x30 x31 x32 x33 x34 x35:Value) w u1 u2 s1 s2,LinBox w A 139 3 u1 u2 s1 s2 (c++[1]) (l++[y]) least->Chalk.Mod (fun k=>k=r1∨k=r2∨k=A) W0 w->(s1=r1∨W0.heap.size<=s1)->(s2=r2∨W0.heap.size<=s2)->Q .normal ⟨(((((((((((a0.tmps.setIfInBounds 25 x25).setIfInBounds 26 x26).setIfInBounds 27 x27).setIfInBounds 28 x28).setIfInBounds 29 x29).setIfInBounds 30 x30).setIfInBounds 31 x31).setIfInBounds 32 x32).setIfInBounds 33 x33).setIfInBounds 34 x34).setIfInBounds 35 x35),a0.defers⟩ w) :
  (Code.region id ops true).wp Tryz.prog Q a0 W0:=by
 obtain ⟨i0,hi,hz0,hz1,hz2⟩:=info_parts sums_info
 have hA0:=H.lt.1
 refine region_inv (by kernel_rfl) (RegInv a0 W0 A v1 v2 r1 r2 c l least y) ?_ ?_ ?_
 ·refine ⟨v1,v2,r1,r2,0,0,?_⟩
  have e:(fun k=>(Array.replicate ops.size false).getD k false)=fun _=>false:=funext fun k=>by
   simp only [Array.getD_eq_getD_getElem?,Array.getElem?_replicate];split <;> rfl
  rw [e]
  have hb:Below W0.heap.size W0 W0.drew:=⟨rfl,rfl,rfl,Nat.le_refl _,fun _ _=>rfl⟩
  exact ⟨hsz,rfl,fun _ _=>rfl,nofun,nofun,nofun,nofun,nofun,nofun,nofun,nofun,nofun,nofun,nofun,nofun,nofun,fun _=>rfl,fun _=>rfl,(by simp only [Bool.false_eq_true,if_false];exact H.box),(by simpa using H.o1.below hb),(by simpa using H.o2.below hb),H.n12,H.n1,H.n2,Chalk.Mod.of_below hb,.inl rfl,.inl rfl,nofun,nofun⟩
 ·rintro listed a w i ⟨u1,u2,s1,s2,t1,t2,R⟩ hls hri
  obtain ⟨hi1,hi2,op,hop,hdep⟩:=Go.Chalk.mem_ready hri
  clear hri fin
  rw [hops] at hls hi1
  have hi3:listed.getD i false=false:=by
   have hi':i<listed.size:=by omega
   simpa [Array.getD,hi'] using hi2
  have hlt:i<listed.size:=by omega
  have e10:a.tmps[10]?.getD undef=.pointer (some ⟨A,0,none⟩):=(slot_get a 10).trans ((slot_far R 10 (by omega)).trans h10)
  have e12:a.tmps[12]?.getD undef=.int .i64 y:=(slot_get a 12).trans ((slot_far R 12 (by omega)).trans h12)
  have hA:A<w.heap.size:=Nat.lt_of_lt_of_le hA0 R.mod.size
  have hcs:i=0∨i=1∨i=2∨i=3∨i=4∨i=5∨i=6∨i=7∨i=8∨i=9∨i=10∨i=11∨i=12:=by omega
  rcases hcs with rfl | rfl | rfl | rfl | rfl | rfl | rfl | rfl | rfl | rfl | rfl | rfl | rfl
  ·obtain ⟨p,hp⟩:=p0
   rw [hp] at hop;cases hop
   refine wpOp_of hp rfl ?_
   clear hp
   have hfin:=inv_of hlt (R.put1 (i:=0) (d:=25) (.inl ⟨rfl,rfl,rfl⟩))
   clear hdep R
   unfold Oper.wp
   go_simp
   exact hfin
  ·obtain ⟨p,hp⟩:=p1
   rw [hp] at hop;cases hop
   refine wpOp_of hp rfl ?_
   clear hp
   have hfin:=inv_of hlt (R.put1 (i:=1) (d:=26) (.inr (.inl ⟨rfl,rfl,rfl⟩)))
   have d0:listed.getD 0 false=true:=hdep ⟨0,.data⟩ (by simp) rfl
   have e25:a.tmps[25]?.getD undef=.pointer (some ⟨A,0,none⟩):=(slot_get a 25).trans (R.s25 d0)
   have n10:listed.getD 10 false=false:=by
    cases h:listed.getD 10 false with
    | false=>rfl
    | true=>have:=(R.q1 h).1;rw [hi3] at this;cases this
   have cA:w.cell? ⟨A,0,none⟩=some v1:=cH R.box (by simp only [n10];rfl)
   clear hdep R
   unfold Oper.wp
   go_simp
   exact hfin
  ·obtain ⟨p,hp⟩:=p2
   rw [hp] at hop;cases hop
   refine wpOp_of hp rfl ?_
   clear hp
   have hfin:=inv_of hlt R.build1
   clear hdep R
   unfold Oper.wp
   go_simp
   exact hfin
  ·obtain ⟨p,hp⟩:=p3
   rw [hp] at hop;cases hop
   refine wpOp_of hp rfl ?_
   clear hp
   have d1:listed.getD 1 false=true:=hdep ⟨1,.data⟩ (by simp) rfl
   have d2:listed.getD 2 false=true:=hdep ⟨2,.data⟩ (by simp) rfl
   have hu:u1=v1:=R.e1 hi3
   have ho:=R.o1.int_cells.1
   simp only [hi3,Bool.false_eq_true,if_false] at ho
   refine wp_append_lies w (.tmp 26) (.tmp 27) _ (by rfl) 0 3 i0 _ 1 8 Tryz.underlying90 hi hz0 hz1 hz2 rfl (by omega) u1 c.length (c.map (Value.int .i64)) ((R.s26 d1).trans hu.symm) ho ⟨t1,0,none⟩ 1 1 [.int .i64 1] (R.s27 d2) rfl (news_heap (R.b1 d2 hi3).1) (by simp [Value.oneCell']) (by omega) (by unfold maxLen;omega) (by omega) (Nat.zero_le _) _ rfl ?_
   intro g cap w1 hown hgrow hat hlt'
   exact inv_of hlt (R.app1 hi3 hA0 hown hgrow hat)
  ·obtain ⟨p,hp⟩:=p4
   rw [hp] at hop;cases hop
   refine wpOp_of hp rfl ?_
   clear hp
   have hfin:=inv_of hlt (R.put1 (i:=4) (d:=29) (.inr (.inr (.inl ⟨rfl,rfl,rfl⟩))))
   clear hdep R
   unfold Oper.wp
   go_simp
   exact hfin
  ·obtain ⟨p,hp⟩:=p5
   rw [hp] at hop;cases hop
   refine wpOp_of hp rfl ?_
   clear hp
   have hfin:=inv_of hlt (R.put1 (i:=5) (d:=30) (.inr (.inr (.inr (.inl ⟨rfl,rfl,rfl⟩)))))
   have d4:listed.getD 4 false=true:=hdep ⟨4,.data⟩ (by simp) rfl
   have e29:a.tmps[29]?.getD undef=.pointer (some ⟨A,1,none⟩):=(slot_get a 29).trans (R.s29 d4)
   have n12:listed.getD 12 false=false:=by
    cases h:listed.getD 12 false with
    | false=>rfl
    | true=>have:=(R.q2 h).1;rw [hi3] at this;cases this
   have cA:w.cell? ⟨A,1,none⟩=some v2:=cH R.box (by simp only [n12];rfl)
   clear hdep R
   unfold Oper.wp
   go_simp
   exact hfin
  ·obtain ⟨p,hp⟩:=p6
   rw [hp] at hop;cases hop
   refine wpOp_of hp rfl ?_
   clear hp
   have hfin:=inv_of hlt (R.put1 (i:=6) (d:=31) (.inr (.inr (.inr (.inr (.inl ⟨rfl,rfl,rfl⟩))))))
   clear hdep R
   unfold Oper.wp
   go_simp
   exact hfin
  ·obtain ⟨p,hp⟩:=p7
   rw [hp] at hop;cases hop
   refine wpOp_of hp rfl ?_
   clear hp
   have hfin:=inv_of hlt R.build2
   have d6:listed.getD 6 false=true:=hdep ⟨6,.data⟩ (by simp) rfl
   have e31:a.tmps[31]?.getD undef=.int .i64 y:=(slot_get a 31).trans (R.s31 d6)
   clear hdep R
   unfold Oper.wp
   go_simp
   exact hfin
  ·obtain ⟨p,hp⟩:=p8
   rw [hp] at hop;cases hop
   refine wpOp_of hp rfl ?_
   clear hp
   have d5:listed.getD 5 false=true:=hdep ⟨5,.data⟩ (by simp) rfl
   have d7:listed.getD 7 false=true:=hdep ⟨7,.data⟩ (by simp) rfl
   have hu:u2=v2:=R.e2 hi3
   have ho:=R.o2.int_cells.1
   simp only [hi3,Bool.false_eq_true,if_false] at ho
   refine wp_append_lies w (.tmp 30) (.tmp 32) _ (by rfl) 0 3 i0 _ 1 8 Tryz.underlying90 hi hz0 hz1 hz2 rfl (by omega) u2 l.length (l.map (Value.int .i64)) ((R.s30 d5).trans hu.symm) ho ⟨t2,0,none⟩ 1 1 [.int .i64 y] (R.s32 d7) rfl (news_heap (R.b2 d7 hi3).1) (by simp [Value.oneCell']) (by omega) (by unfold maxLen;omega) (by omega) (Nat.zero_le _) _ rfl ?_
   intro g cap w1 hown hgrow hat hlt'
   exact inv_of hlt (R.app2 hi3 hA0 hy hown hgrow hat)
  ·obtain ⟨p,hp⟩:=p9
   rw [hp] at hop;cases hop
   refine wpOp_of hp rfl ?_
   clear hp
   have hfin:=inv_of hlt (R.put1 (i:=9) (d:=34) (.inr (.inr (.inr (.inr (.inr (.inl ⟨rfl,rfl,rfl⟩)))))))
   clear hdep R
   unfold Oper.wp
   go_simp
   exact hfin
  ·obtain ⟨p,hp⟩:=p10
   rw [hp] at hop;cases hop
   refine wpOp_of hp rfl ?_
   clear hp
   have d1:listed.getD 1 false=true:=hdep ⟨1,.phase⟩ (by simp) rfl
   have d3:listed.getD 3 false=true:=hdep ⟨3,.data⟩ (by simp) rfl
   have d9:listed.getD 9 false=true:=hdep ⟨9,.data⟩ (by simp) rfl
   have e34:a.tmps[34]?.getD undef=.pointer (some ⟨A,0,none⟩):=(slot_get a 34).trans (R.s34 d9)
   have e28:a.tmps[28]?.getD undef=u1:=(slot_get a 28).trans (R.s28 d3)
   have hfin:=inv_of hlt (R.store1 d1 d3)
   have fz:w.frozen? ⟨A,0,none⟩=false:=fH R.box
   have cA:∃ v,w.cell? ⟨A,0,none⟩=some v:=⟨_,cH R.box (by rfl)⟩
   obtain ⟨vA,cA⟩:=cA
   obtain ⟨ua,un,ucap,hu⟩:∃ a n cap,u1=.slice a n cap:=by obtain ⟨a,cap,h⟩:=R.o1.form;exact ⟨a,_,cap,h⟩
   subst hu
   clear hdep R
   unfold Oper.wp
   go_simp
  ·obtain ⟨p,hp⟩:=p11
   rw [hp] at hop;cases hop
   refine wpOp_of hp rfl ?_
   clear hp
   have hfin:=inv_of hlt (R.put1 (i:=11) (d:=35) (.inr (.inr (.inr (.inr (.inr (.inr (⟨rfl,rfl,rfl⟩))))))))
   clear hdep R
   unfold Oper.wp
   go_simp
   exact hfin
  ·obtain ⟨p,hp⟩:=p12
   rw [hp] at hop;cases hop
   refine wpOp_of hp rfl ?_
   clear hp
   have d5:listed.getD 5 false=true:=hdep ⟨5,.phase⟩ (by simp) rfl
   have d8:listed.getD 8 false=true:=hdep ⟨8,.data⟩ (by simp) rfl
   have d11:listed.getD 11 false=true:=hdep ⟨11,.data⟩ (by simp) rfl
   have e35:a.tmps[35]?.getD undef=.pointer (some ⟨A,1,none⟩):=(slot_get a 35).trans (R.s35 d11)
   have e33:a.tmps[33]?.getD undef=u2:=(slot_get a 33).trans (R.s33 d8)
   have hfin:=inv_of hlt (R.store2 d5 d8)
   have fz:w.frozen? ⟨A,1,none⟩=false:=fH R.box
   have cA:∃ v,w.cell? ⟨A,1,none⟩=some v:=⟨_,cH R.box (by rfl)⟩
   obtain ⟨vA,cA⟩:=cA
   obtain ⟨ua,un,ucap,hu⟩:∃ a n cap,u2=.slice a n cap:=by obtain ⟨a,cap,h⟩:=R.o2.form;exact ⟨a,_,cap,h⟩
   subst hu
   clear hdep R
   unfold Oper.wp
   go_simp
 ·rintro listed a w ⟨u1,u2,s1,s2,t1,t2,R⟩ hls hr
  have h:∀ i,i<13->listed.getD i false=true:=by
   have l0:listed.getD 0 false=true:=by
    obtain ⟨p,hp⟩:=p0
    refine ready_nil hr hp hls ?_
    simp
   have m0:listed[0]?.getD false=true:=by simpa using l0
   have l1:listed.getD 1 false=true:=by
    obtain ⟨p,hp⟩:=p1
    refine ready_nil hr hp hls ?_
    simp [Region.binds,m0]
   have m1:listed[1]?.getD false=true:=by simpa using l1
   have l2:listed.getD 2 false=true:=by
    obtain ⟨p,hp⟩:=p2
    refine ready_nil hr hp hls ?_
    simp
   have m2:listed[2]?.getD false=true:=by simpa using l2
   have l3:listed.getD 3 false=true:=by
    obtain ⟨p,hp⟩:=p3
    refine ready_nil hr hp hls ?_
    simp [Region.binds,m1,m2]
   have m3:listed[3]?.getD false=true:=by simpa using l3
   have l4:listed.getD 4 false=true:=by
    obtain ⟨p,hp⟩:=p4
    refine ready_nil hr hp hls ?_
    simp
   have m4:listed[4]?.getD false=true:=by simpa using l4
   have l5:listed.getD 5 false=true:=by
    obtain ⟨p,hp⟩:=p5
    refine ready_nil hr hp hls ?_
    simp [Region.binds,m4]
   have m5:listed[5]?.getD false=true:=by simpa using l5
   have l6:listed.getD 6 false=true:=by
    obtain ⟨p,hp⟩:=p6
    refine ready_nil hr hp hls ?_
    simp
   have m6:listed[6]?.getD false=true:=by simpa using l6
   have l7:listed.getD 7 false=true:=by
    obtain ⟨p,hp⟩:=p7
    refine ready_nil hr hp hls ?_
    simp [Region.binds,m6]
   have m7:listed[7]?.getD false=true:=by simpa using l7
   have l8:listed.getD 8 false=true:=by
    obtain ⟨p,hp⟩:=p8
    refine ready_nil hr hp hls ?_
    simp [Region.binds,m5,m7,m3]
   have m8:listed[8]?.getD false=true:=by simpa using l8
   have l9:listed.getD 9 false=true:=by
    obtain ⟨p,hp⟩:=p9
    refine ready_nil hr hp hls ?_
    simp [Region.binds,m0,m1,m2,m3,m4,m5]
   have m9:listed[9]?.getD false=true:=by simpa using l9
   have l10:listed.getD 10 false=true:=by
    obtain ⟨p,hp⟩:=p10
    refine ready_nil hr hp hls ?_
    simp [Region.binds,m9,m3,m8,m0,m1,m2,m4,m5]
   have m10:listed[10]?.getD false=true:=by simpa using l10
   have l11:listed.getD 11 false=true:=by
    obtain ⟨p,hp⟩:=p11
    refine ready_nil hr hp hls ?_
    simp [Region.binds,m0,m1,m2,m3,m4,m5,m6,m7,m8,m9,m10]
   have m11:listed[11]?.getD false=true:=by simpa using l11
   have l12:listed.getD 12 false=true:=by
    obtain ⟨p,hp⟩:=p12
    refine ready_nil hr hp hls ?_
    simp [Region.binds,m0,m1,m2,m3,m4,m5,m6,m7,m8,m9,m10,m11]
   have m12:listed[12]?.getD false=true:=by simpa using l12
   intro i hi
   have hcs:i=0∨i=1∨i=2∨i=3∨i=4∨i=5∨i=6∨i=7∨i=8∨i=9∨i=10∨i=11∨i=12:=by omega
   rcases hcs with rfl | rfl | rfl | rfl | rfl | rfl | rfl | rfl | rfl | rfl | rfl | rfl | rfl <;> assumption
  have hbox:=R.box
  have ho1:=R.o1
  have ho2:=R.o2
  simp only [h 10 (by omega),h 12 (by omega),h 3 (by omega),h 8 (by omega),if_true] at hbox ho1 ho2
  rw [frame_eq R.sz hsz R.df R.far]
  exact fin _ _ _ _ _ _ _ _ _ _ _ w u1 u2 s1 s2 ⟨hbox,ho1,ho2,R.n12,R.n1,R.n2⟩ R.mod R.f1 R.f2

end Go.Proofs.YtjjkfgjnadaheaaGreatDoor
/- gate's (*maker).put. -/
namespace Go.Proofs.YtjjkfgjnadaheaaGreatDoor
open Go.RowKit Go.Chalk
theorem put_info:(Tryz.prog.info? 139).map (fun i=>(i.zero,i.size,i.bytes))=some (some (.agg #[.slice none 0 0,.slice none 0 0,.int .i64 0]),3,56):=by kernel_rfl
theorem put_fin {w wr:World} {G:Nat->Prop} {mb A:Nat} {tm tl ti:TypeId} {ex:List Value} {v v1 v2 x:Value} {nx least:Int} {lins:List Lin} {r:Option Nat} {r1 r2:Nat} {C Ls:List Int} (M:MkAt w G mb tm tl ex v nx lins r) (hb:Below w.heap.size w wr) (L:LinBox wr A tl ti v1 v2 r1 r2 C Ls least) (hr1:w.heap.size<=r1) (hr2:w.heap.size<=r2)
  (hl : -9223372036854775808<=least/\least<=9223372036854775807) :
  ∃ cs,((wr.alloc (.cells #[v1,v2,.int .i64 least] tl)).drew).ownsRow 0 tl 3 v lins.length cs /\
   ∀ g cap w1,w1.ownsRow 0 tl 3 (.slice (some ⟨g,0,none⟩) (lins.length+1) cap) (lins.length+1) (cs++[v1,v2,.int .i64 least])->((wr.alloc (.cells #[v1,v2,.int .i64 least] tl)).drew).grownBy w1 v.ownBlock->(v.ownBlock=some g∨g=wr.heap.size+1) ->
    (w1.cell? ⟨mb,0,none⟩=some v/\w1.frozen? ⟨mb,0,none⟩=false)/\LitPost w G mb tm tl ex lins r x [⟨C,Ls,least⟩] nx (.returned x) (w1.setCell ⟨mb,0,none⟩ (.slice (some ⟨g,0,none⟩) (lins.length+1) cap)):=by
 have hba:Below wr.heap.size wr ((wr.alloc (.cells #[v1,v2,.int .i64 least] tl)).drew):=by
  have h:=(Below.refl wr.heap.size wr).alloc (Nat.le_refl _) (.cells #[v1,v2,.int .i64 least] tl)
  exact ⟨h.os,h.tape,h.output,h.size,h.block⟩
 have hsW:((wr.alloc (.cells #[v1,v2,.int .i64 least] tl)).drew).heap.size=wr.heap.size+1:=by show (wr.alloc _).heap.size=_;simp
 generalize hW:(wr.alloc (.cells #[v1,v2,.int .i64 least] tl)).drew=W at *
 clear hW
 have hs:=hb.size
 have hLt:=L.lt
 have hbW:Below w.heap.size w W:=hb.trans (hba.mono hs)
 have MW:=M.below hbW
 have LW:LinBox W A tl ti v1 v2 r1 r2 C Ls least:=L.kept (S:=fun _=>False) (Chalk.Mod.of_below hba) id id id
 obtain ⟨cs,hrow⟩:=MW.ownsRow
 refine ⟨cs,hrow,fun g cap w1 hown hgrow hat=>?_⟩
 have hn:=LW.read (G:=fun k=>k=r1∨k=r2) (.inl rfl) (.inr rfl) hl
 obtain ⟨hbox,hM,hf,hmod⟩:=MW.push (H:=fun k=>k=r1∨k=r2) (new:=[⟨C,Ls,least⟩]) (fun k hk=>by
  have hmb:=M.lt
  have hG:∀ k,G k->k<w.heap.size:=M.inn
  refine ⟨fun hg=>?_,?_,?_⟩
  ·have:=hG k hg;omega
  ·omega
  ·omega) hn hrow hown hgrow (by rcases hat with h | h;exact .inl h.symm;exact .inr (by rw [h,hsW];rfl))
 refine ⟨⟨cH hbox rfl,fH hbox⟩,rfl,_,_,hM.mono (fun k hk=>?_) (fun k hk=>?_),?_,?_⟩
 ·have hin:=hM.inn k hk
  rcases hk with h | h | h
  ·exact .inl h
  ·exact .inr ⟨by omega,hin⟩
  ·exact .inr ⟨by omega,hin⟩
 ·rcases hk with h | h
  ·exact hM.inn k (.inl h)
  ·exact h.2
 ·rcases hf with h | h
  ·exact .inl h
  ·exact .inr ⟨_,h,by omega⟩
 ·exact (Chalk.Mod.of_below (S:=fun k=>k=mb∨r=some k) hbW).trans hmod (fun _ _ h=>h)

theorem put_loop (mb:Nat) (x c least nx:Int) (ls:List Int) (lins:List Lin) (r:Option Nat) (ex:List Value) (v:Value) (G:Nat->Prop) (a:Option Addr) (b o cap:Nat) (w:World) (hlins:lins.length<=4000000) (M:MkAt w G mb 210 139 ex v nx lins r) (hle : -9223372036854775808<=least/\least<=9223372036854775807) (hx : -9223372036854775808<=x/\x<=9223372036854775807) (hc : -9223372036854775808<=c/\c<=9223372036854775807) (hlen:ls.length<=1000000)
  (hsl:SlAt (·<w.heap.size) a b o ls.length) (hcell:∀ (i:Nat) (h:i<ls.length),w.cell? ⟨b,o+i,none⟩=some (.int .i64 ls[i])) (hwf:∀ y∈ls,-9223372036854775808<=y/\y<=9223372036854775807) (R:Ending->World->Prop)
  (hR:∀ e w',LitPost w G mb 210 139 ex lins r (.tuple #[]) [⟨c :: ls.map (fun _=>1),x :: ls,least⟩] nx e w'->R e w') :
  Calls Tryz.prog 236 #[.pointer (some ⟨mb,0,none⟩),.int .i64 x,.int .i64 c,.slice a ls.length cap,.int .i64 least] w R:=by
 obtain ⟨i0,hi,hz0,hz1,hz2⟩:=info_parts sums_info
 have HC:=Lh hcell
 have HW:=Lh hwf
 have HMK:=Lh M
 have HR:=Lh hR
 clear hcell hwf M hR
 go_enter Tryz.func236,Tryz.ntmps236
 go_wp2_with fail
 go_loopw [21,12] (fun i _ wr=>∃ (j:Nat) (v1 v2:Value) (r1 r2:Nat),i=.int .i64 j/\j<=ls.length/\LinBox wr (w.heap.size+1+1) 139 3 v1 v2 r1 r2 (c :: (ls.take j).map (fun _=>1)) (x :: ls.take j) least/\Below w.heap.size w wr/\w.heap.size<=r1/\w.heap.size<=r2) (fun i _ _=>ls.length - (intOf i).toNat)
 case atStart =>
  have L:=linbox_new w x c least hx hc
  exact ⟨0,_,_,_,_,rfl,Nat.zero_le _,by simpa using L,(((Below.refl _ _).alloc (Nat.le_refl _) _).alloc (by simp) _).alloc (by simp;omega) _,by omega,by omega⟩
 case round =>
  obtain ⟨j,v1,v2,r1,r2,rfl,hj,L,hb,hr1,hr2⟩:=hrel
  by_cases hlt:j<ls.length
  ·obtain ⟨rfl,hbl⟩:=hsl (by omega)
   have hcj:=(hb.cell (p:=⟨b,o+j,none⟩) hbl).trans (HC.out j hlt)
   have hyj:=HW.out ls[j] (List.getElem_mem hlt)
   obtain ⟨q0,q1,q2,q3,q4⟩:=L.cells
   have hlt1:=L.lt
   generalize hc1:(c :: (ls.take j).map (fun _=>(1:Int)))=c1 at L
   generalize hl1:(x :: ls.take j)=l1 at L
   have n1:c1.length<=1000001:=by rw [<- hc1];simp;omega
   have n2:l1.length<=1000001:=by rw [<- hl1];simp;omega
   have HE:=Lh (aI hc1 hl1)
   have HL:=Lh L
   clear hc1 hl1 L
   obtain ⟨hA,hr1l,hr2l⟩:=hlt1
   generalize hy:ls[j]=y at hcj hyj
   have HY:=Lh hy
   clear hy
   go_upto_region 4 with (fail)
   refine two_region (A:=w.heap.size+1+1) (y:=y) rfl ⟨_,rfl⟩ ⟨_,rfl⟩ ⟨_,rfl⟩ ⟨_,rfl⟩ ⟨_,rfl⟩ ⟨_,rfl⟩ ⟨_,rfl⟩ ⟨_,rfl⟩ ⟨_,rfl⟩ ⟨_,rfl⟩ ⟨_,rfl⟩ ⟨_,rfl⟩ ⟨_,rfl⟩ rfl rfl rfl hyj HL.out n1 n2 ?_
   intro x25 x26 x27 x28 x29 x30 x31 x32 x33 x34 x35 w' u1 u2 s1 s2 L2 hM hf1 hf2
   simp only [List.setIfInBounds_toArray,List.set_cons_zero,List.set_cons_succ]
   have hbn:Below w.heap.size w w':=hb.trans (hM.below hb.size (fun k hk=>by omega))
   have hN:LinBox w' (w.heap.size+1+1) 139 3 u1 u2 s1 s2 (c :: (ls.take (j+1)).map (fun _=>1)) (x :: ls.take (j+1)) least:=by
    rw [List.take_succ_eq_append_getElem hlt,List.map_append,HY.out]
    obtain ⟨e1,e2⟩:=HE.out
    rw [<- e1,<- e2] at L2
    exact L2
   have g1:w.heap.size<=s1:=by have:=hb.size;omega
   have g2:w.heap.size<=s2:=by have:=hb.size;omega
   have HBN:=Lh hbn
   have HN:=Lh hN
   clear hM L2 hbn hN hf1 hf2 HL HE HY hcj q0 q1 q2 q3 q4 n1 n2 hyj hb hA hr1l hr2l
   go_wp2_with fail
   go_roundw
   case rel=>exact ⟨j+1,u1,u2,s1,s2,by go_num,by omega,HN.out,HBN.out,g1,g2⟩
   case measure=>simp [intOf];omega
  ·obtain rfl:j=ls.length:=by omega
   rw [List.take_of_length_le (Nat.le_refl _)] at L
   obtain ⟨q0,q1,q2,q3,q4⟩:=L.cells
   obtain ⟨p0,p1,p2,p3⟩:=(HMK.out.below hb).cells
   obtain ⟨cs,hrow,hfin⟩:=put_fin (x:=.tuple #[]) HMK.out hb L hr1 hr2 hle
   have HROW:=Lh hrow
   have HFIN:=Lh hfin
   obtain ⟨a1,n1,cap1,hv1⟩:∃ a n cap,v1=.slice a n cap:=by obtain ⟨a,cap,h⟩:=L.o1.form;exact ⟨a,_,cap,h⟩
   obtain ⟨a2,n2,cap2,hv2⟩:∃ a n cap,v2=.slice a n cap:=by obtain ⟨a,cap,h⟩:=L.o2.form;exact ⟨a,_,cap,h⟩
   obtain ⟨a3,n3,cap3,hv3⟩:∃ a n cap,v=.slice a n cap:=by
    obtain ⟨_,⟨F,o,_⟩,_,_⟩:=HMK.out
    obtain ⟨a,cap,h⟩:=o.form;exact ⟨a,_,cap,h⟩
   subst hv1 hv2 hv3
   have hmbl:mb<wr.heap.size:=Nat.lt_of_lt_of_le HMK.out.lt hb.size
   obtain ⟨i1,hi1,hy0,hy1,hy2⟩:=info_parts put_info
   clear hrow hfin L hb
   go_wp2_with fail
   go_region_law (first | (refine step_append_lies _ (by rfl) _ _ _ (by rfl) 0 139 i1 _ 3 56 Tryz.underlying67 hi1 hy0 hy1 hy2 rfl (by omega) _ _ cs (by rfl) HROW.out ⟨wr.heap.size,0,none⟩ 1 1 [.slice a1 n1 cap1,.slice a2 n2 cap2,.int .i64 least] (by rfl) (by rfl) (World.news_of_block (heap_alloc_new wr _)) (by simp [Value.oneCell']) (by omega) (by unfold maxLen;omega) (by omega) (Nat.zero_le _) (wr.heap.size+1) (by simp) ?_;intro g cp wz hown hgrow hat hglt;obtain ⟨⟨hcz,hfz⟩,hlp⟩:=HFIN.out g cp wz hown hgrow hat;have HLP:=Lh hlp;clear hlp hown hgrow hat))
   all_goals
    go_wp2_with fail
    go_end0
    exact HR.out _ _ HLP.out

theorem put_any (mb:Nat) (x c least nx:Int) (ls:List Int) (lins:List Lin) (r:Option Nat) (ex:List Value) (v vL:Value) (G:Nat->Prop) (w:World) (hlins:lins.length<=4000000) (M:MkAt w G mb 210 139 ex v nx lins r) (hle : -9223372036854775808<=least/\least<=9223372036854775807) (hx : -9223372036854775808<=x/\x<=9223372036854775807) (hc : -9223372036854775808<=c/\c<=9223372036854775807) (hlen:ls.length<=1000000)
  (hd:DAt w (·<w.heap.size) (.sl (dints ls)) [vL]) :
  Calls Tryz.prog 236 #[.pointer (some ⟨mb,0,none⟩),.int .i64 x,.int .i64 c,vL,.int .i64 least] w (LitPost w G mb 210 139 ex lins r (.tuple #[]) [⟨c :: ls.map (fun _=>1),x :: ls,least⟩] nx):=by
 obtain ⟨a,b,o,cap,he,h1,h2,h3,h4,h5⟩:=hd.open_ints
 simp only [List.cons.injEq,and_true] at he
 subst he
 exact put_loop mb x c least nx ls lins r ex v G a b o cap w hlins M hle hx hc hlen h1 h5 h4 _ (fun _ _ h=>h)

end Go.Proofs.YtjjkfgjnadaheaaGreatDoor
/- gate's (*maker).fresh. -/
namespace Go.Chalk
open Go.RowKit
theorem Own.int_set {w:World} {F:Nat->Prop} {e:TypeId} {g n cap:Nat} {xs:List Int} (h:Own w F e 1 (.slice (some ⟨g,0,none⟩) n cap) (some g) (dints xs)) (hn:n=xs.length) (i:Nat) (hi:i<xs.length) (y:Int) (hy : -9223372036854775808<=y/\y<=9223372036854775807) :
  w.cell? ⟨g,i,none⟩=some (.int .i64 xs[i])/\w.frozen? ⟨g,i,none⟩=false/\Own (w.setCell ⟨g,i,none⟩ (.int .i64 y)) F e 1 (.slice (some ⟨g,0,none⟩) n cap) (some g) (dints (xs.set i y)):=by
 subst hn
 obtain ⟨h1,h2⟩:=h.int_cells
 refine ⟨?_,h1.frozenAt i,⟨(xs.set i y).map (Value.int .i64),?_,DsAt.ints (fun z hz=>?_)⟩,rfl,h.off,fun k hk=>by have:=h.lt k hk;simpa [World.setCell] using this⟩
 ·rw [h1.cellAt i (by omega)];simp [hi]
 ·have:=(h1.stored i (.int .i64 y)).1
  simpa [List.map_set] using this
 ·rcases List.mem_or_eq_of_mem_set hz with hz | rfl
  ·exact h2 z hz
  ·exact hy
end Go.Chalk
namespace Go.Proofs.YtjjkfgjnadaheaaGreatDoor
open Go.RowKit Go.Chalk
theorem clone_ne (ls:List Int) (vL:Value) (F:Nat->Prop) (w:World) (hd:DAt w F (.sl (dints ls)) [vL]) (hn:0<ls.length) (hlen:ls.length<=1000000) (hF:∀ k,F k->k<w.heap.size) :
  Calls Tryz.prog 182 #[vL] w fun e w'=>∃ g cap,e=.returned (.slice (some ⟨g,0,none⟩) ls.length cap)/\Chalk.Own w' (fun _=>False) 3 1 (.slice (some ⟨g,0,none⟩) ls.length cap) (some g) (dints ls)/\w.heap.size<=g/\Below w.heap.size w w':=by
 obtain ⟨i0,hi,hz0,hz1,hz2⟩:=info_parts sums_info
 obtain ⟨b,o,cap,cs,rfl,h1,h2,h3,h4⟩:=hd.source (by simpa using hn)
 obtain ⟨rfl,hwf⟩:=DsAt.ints_inv h1
 have hO:Chalk.Own (w.alloc (.cells #[] 3)) (fun _=>False) 3 1 (.slice (some ⟨w.heap.size,0,none⟩) 0 0) (some w.heap.size) (dints []):=Chalk.Own.lit (xs:=dints []) (cs:=[]) rfl (by decide) rfl (by rw [dints,List.map_nil,DsAt]) (fun _ h=>h.elim)
 have HO:=Lh hO
 have H2:=Lh h2
 have HBL:=Lh (hF b h4)
 have HW:=Lh hwf
 have H3:=Lh h3
 simp only [dints_length]
 have hadd:∀ j,((⟨b,o,none⟩:Addr).add j).block=b:=fun j=>by unfold Addr.add;split <;> rfl
 have hnw:∀ j u,(ls.map (Value.int .i64))[j]?=some u->(w.alloc (.cells #[] 3)).cell? ((⟨b,o,none⟩:Addr).add j)=some u:=fun j u hu=>(((Below.refl w.heap.size w).alloc (Nat.le_refl _) _).cell (by rw [hadd];exact HBL.out)).trans (h2 j u hu)
 have HNW:=Lh hnw
 clear hO h2 h1 hwf hd h3 hnw hadd
 have heq:=Lib.run_eql_slice_nil (P:=Tryz.prog) w 90 3 (some ⟨b,o,none⟩) ls.length cap 0 0 Tryz.underlying90
 go_enter Tryz.func182,Tryz.ntmps182
 go_wp2_with (at_builtin;go_must (refine wpList_append_lies _ rfl _ _ _ rfl 0 3 i0 _ 1 8 Tryz.underlying90 hi hz0 hz1 hz2 rfl (by omega) (.slice (some ⟨w.heap.size,0,none⟩) 0 0) 0 [] rfl HO.out.int_cells.1 ⟨b,o,none⟩ ls.length cap (ls.map (Value.int .i64)) rfl (by simp) HNW.out H3.out hn (by unfold maxLen;omega) (by omega) (Nat.zero_le _) (w.heap.size+1) (by simp) ?_);intro g cp wz hown hgrow hat hglt)
 go_ret
 obtain ⟨g1,g2,g3⟩:=HO.out.int_appended (ys:=ls) HW.out (by simpa using hown) hgrow (by rcases hat with h | h;exact .inl h.symm;exact .inr (by rw [h];simp [Value.ownBlock]))
 have hg:w.heap.size<=g:=by
  rcases hat with h | h
  ·simp [Value.ownBlock] at h;omega
  ·omega
 refine ⟨g,cp,by simp,by simpa [Value.ownBlock] using g1,hg,((Below.refl _ _).alloc (Nat.le_refl _) _).trans (g2.below (by simp) (fun k hk=>by simp at hk;omega))⟩

theorem LitPost.next {w w1 w1' w2:World} {G G':Nat->Prop} {mb:Nat} {tm tl:TypeId} {ex:List Value} {ls new new2:List Lin} {r r':Option Nat} {x y:Value} {nx2:Int} {e:Ending} (hmod:Chalk.Mod (fun k=>k=mb∨r=some k) w w1) (hf:r'=r∨∃ k,r'=some k/\w.heap.size<=k) (hb:Below w1.heap.size w1 w1')
  (h2:LitPost w1' G' mb tm tl ex (ls++new) r' x new2 nx2 e w2) (hG:∀ k,G' k->G k∨(w.heap.size<=k/\k<w2.heap.size)) (hG2:∀ k,G k->k<w.heap.size):LitPost w G mb tm tl ex ls r y (new++new2) nx2 (.returned y) w2:=by
 obtain ⟨_,v'',r'',m2,f2,md2⟩:=h2
 have s1:=hmod.size
 have s2:=hb.size
 have s3:=md2.size
 refine ⟨rfl,v'',r'',?_,?_,?_⟩
 ·rw [<- List.append_assoc]
  refine m2.mono (fun k hk=>?_) (fun k hk=>?_)
  ·rcases hk with h | h
   ·exact hG k h
   ·exact .inr ⟨by omega,h.2⟩
  ·rcases hk with h | h
   ·have:=hG2 k h;omega
   ·exact h.2
 ·rcases f2 with h | ⟨k,h,hk⟩
  ·rw [h];exact hf
  ·exact .inr ⟨k,h,by omega⟩
 ·refine (hmod.trans (Chalk.Mod.of_below (S:=fun _=>False) hb) (fun _ _ h=>h.elim)).trans md2 (fun i hi h=>?_)
  rcases h with h | h
  ·exact .inl h
  ·rcases hf with f | ⟨k,f,hk⟩
   ·exact .inr (f ▸ h)
   ·rw [f] at h;simp at h;omega

def Stops (S:Nat->Prop) (w:World) (e:Ending) (w':World):Prop:=e=.panicked [{ v:=.iface 212 (.agg #[.int .i64 2]),recovered:=false }]/\Chalk.Mod S w w'

theorem fresh_stop (mb:Nat) (k nx:Int) (lins:List Lin) (r:Option Nat) (ex:List Value) (v:Value) (a:Option Addr) (n cap:Nat) (G:Nat->Prop) (w:World) (M:MkAt w G mb 210 139 ex v nx lins r) (hnx:65536<nx) (hnx2:nx<=9223372036854775807) (S:Nat->Prop) :
  Calls Tryz.prog 205 #[.pointer (some ⟨mb,0,none⟩),.int .i64 k,.slice a n cap] w (Stops S w):=by
 obtain ⟨p0,p1,p2,p3⟩:=M.cells
 clear M
 go_enter Tryz.func205,Tryz.ntmps205
 go_wp2_with fail
 exact ⟨rfl,rfl,Chalk.Mod.refl _ _⟩

def Apart (w:World) (mb:Nat) (r:Option Nat) (k:Nat):Prop:=k<w.heap.size/\k ≠ mb/\r ≠ some k

theorem fresh_low (mb:Nat) (k nx:Int) (ls:List Int) (lins:List Lin) (r:Option Nat) (ex:List Value) (v vL:Value) (G:Nat->Prop) (w:World) (M:MkAt w G mb 210 139 ex v nx lins r) (hlins:lins.length<=4000000) (hnx1:1<=nx) (hnx:nx<=65536)
  (hd:DAt w (Apart w mb r) (.sl (dints ls)) [vL]) (hk:k<=0∨(0<k/\(ls.length:Int)<k)) (hk2 : -1000000000000000000<=k/\k<=1000000000000000000) (hlen:ls.length<=1000000) :
  Calls Tryz.prog 205 #[.pointer (some ⟨mb,0,none⟩),.int .i64 k,vL] w (LitPost w G mb 210 139 ex lins r (.int .i64 nx) (sumsF nx k ls) (nx+1)):=by
 obtain ⟨a,b,o,cap,he,_⟩:=hd.open_ints
 simp only [List.cons.injEq,and_true] at he
 subst he
 obtain ⟨p0,p1,p2,p3⟩:=M.cells
 have M1:=M.count (nx+1)
 have hW:Chalk.Mod (fun k=>k=mb∨r=some k) w (w.setCell ⟨mb,1,none⟩ (.int .i64 (nx+1))):=(Chalk.Mod.refl _ w).setCell (p:=⟨mb,1,none⟩) (fun _=>.inl rfl) _
 have HG:Hid (∀ k,G k->k<w.heap.size):=M.inn
 have HM1:=Lh M1
 have HW:=Lh hW
 have hnil:DAt (w.setCell ⟨mb,1,none⟩ (.int .i64 (nx+1))) (·<(w.setCell ⟨mb,1,none⟩ (.int .i64 (nx+1))).heap.size) (.sl (dints [])) [.slice none 0 0]:=DAt.slice (xs:=[]) (b:=0) (o:=0) (a:=none) (fun h=>by simp at h) (Nat.le_refl _) (Nat.zero_le _) (by rw [RowAt];trivial)
 have HNIL:=Lh hnil
 clear hnil M M1 hW hd
 rcases hk with hk | ⟨hk,hkn⟩
 ·have hs:sumsF nx k ls=[⟨[1],[nx],1⟩]:=by unfold sumsF;rw [if_pos hk]
  rw [hs]
  clear hs
  go_enter Tryz.func205,Tryz.ntmps205
  go_wp2_with fail
  refine (put_any mb nx 1 1 (nx+1) [] lins r ex v _ G _ hlins HM1.out (by omega) (by omega) (by omega) (by simp) HNIL.out).mono ?_
  rintro e w1 ⟨rfl,v1,r1,hM,hf,hmd⟩
  have HF:=Lh (aI hM (aI hf hmd))
  clear hM hf hmd
  go_wp2_with fail
  go_ret
  exact LitPost.next (x:=.tuple #[]) (e:=.returned (.tuple #[])) (new:=[]) HW.out (.inl rfl) (Below.refl _ _) (by rw [List.append_nil];exact ⟨rfl,v1,r1,HF.out⟩) (fun k hk=>.inl hk) HG.out
 ·have hs:sumsF nx k ls=[⟨[1],[-nx],1⟩]:=by unfold sumsF;rw [if_neg (by omega),if_pos hkn]
  rw [hs]
  clear hs
  go_enter Tryz.func205,Tryz.ntmps205
  go_wp2_with fail
  refine (put_any mb (-nx) 1 1 (nx+1) [] lins r ex v _ G _ hlins HM1.out (by omega) (by omega) (by omega) (by simp) HNIL.out).mono ?_
  rintro e w1 ⟨rfl,v1,r1,hM,hf,hmd⟩
  have HF:=Lh (aI hM (aI hf hmd))
  clear hM hf hmd
  go_wp2_with fail
  go_ret
  exact LitPost.next (x:=.tuple #[]) (e:=.returned (.tuple #[])) (new:=[]) HW.out (.inl rfl) (Below.refl _ _) (by rw [List.append_nil];exact ⟨rfl,v1,r1,HF.out⟩) (fun k hk=>.inl hk) HG.out

def negs (ls:List Int) (j:Nat):List Int:=(ls.take j).map (- ·)++ls.drop j
theorem negs_length (ls:List Int) (j:Nat) (h:j<=ls.length):(negs ls j).length=ls.length:=by simp [negs];omega
theorem negs_at (ls:List Int) (j:Nat) (h:j<ls.length):(negs ls j)[j]'(by rw [negs_length ls j (by omega)];exact h)=ls[j]:=by
 unfold negs
 rw [List.getElem_append_right (by simp;omega)]
 simp [Nat.min_eq_left (Nat.le_of_lt h)]
theorem negs_step (ls:List Int) (j:Nat) (h:j<ls.length):(negs ls j).set j (-ls[j])=negs ls (j+1):=by
 unfold negs
 rw [List.take_succ_eq_append_getElem h,List.map_append,List.set_append_right _ _ (by simp;omega)]
 simp only [List.length_map,List.length_take,Nat.min_eq_left (Nat.le_of_lt h),Nat.sub_self,List.map_cons,List.map_nil]
 have e:ls.drop j=ls[j] :: ls.drop (j+1):=List.drop_eq_getElem_cons h
 rw [e,List.set_cons_zero,List.append_assoc,List.singleton_append]
theorem negs_all (ls:List Int):negs ls ls.length=ls.map (- ·):=by simp [negs]
theorem negs_zero (ls:List Int):negs ls 0=ls:=by simp [negs]

theorem fresh_mid (mb:Nat) (k nx:Int) (ls:List Int) (lins:List Lin) (r:Option Nat) (ex:List Value) (v vL:Value) (G:Nat->Prop) (w:World) (M:MkAt w G mb 210 139 ex v nx lins r) (hlins:lins.length<=3999999) (hnx1:1<=nx) (hnx:nx<=65536)
  (hd:DAt w (Apart w mb r) (.sl (dints ls)) [vL]) (hk:0<k) (hkn:k<=(ls.length:Int)) (hlen:ls.length<=1000000) (hls:∀ y∈ls,-1000000000000000000<=y/\y<=1000000000000000000) :
  Calls Tryz.prog 205 #[.pointer (some ⟨mb,0,none⟩),.int .i64 k,vL] w (LitPost w G mb 210 139 ex lins r (.int .i64 nx) (sumsF nx k ls) (nx+1)):=by
 have HD:=Lh hd
 obtain ⟨a,b,o,cap,he,_⟩:=hd.open_ints
 simp only [List.cons.injEq,and_true] at he
 subst he
 obtain ⟨p0,p1,p2,p3⟩:=M.cells
 have M1:=M.count (nx+1)
 have hW:Chalk.Mod (fun k=>k=mb∨r=some k) w (w.setCell ⟨mb,1,none⟩ (.int .i64 (nx+1))):=(Chalk.Mod.refl _ w).setCell (p:=⟨mb,1,none⟩) (fun _=>.inl rfl) _
 have HG:Hid (∀ k,G k->k<w.heap.size):=M.inn
 have HMB:Hid (mb<w.heap.size):=M.lt
 have HM1:=Lh M1
 have HW:=Lh hW
 have HLS:=Lh hls
 have hD1:DAt (w.setCell ⟨mb,1,none⟩ (.int .i64 (nx+1))) (Apart w mb r) (.sl (dints ls)) [.slice a ls.length cap]:=DAt.agree (hW.agree (fun k hk=>⟨hk.1,fun h=>by rcases h with h | h;exact hk.2.1 h;exact hk.2.2 h⟩)) _ _ hd
 have HD1:=Lh hD1
 have HSW:Hid ((w.setCell ⟨mb,1,none⟩ (.int .i64 (nx+1))).heap.size=w.heap.size):=by show _=_;simp [World.setCell]
 clear M M1 hW hd hls hD1
 have hs:sumsF nx k ls=[⟨k :: ls.map (fun _=>1),-nx :: ls,k⟩]++[⟨((ls.length:Int) - k+1) :: (ls.map (- ·)).map (fun _=>1),nx :: ls.map (- ·),(ls.length:Int) - k+1⟩]:=by
  unfold sumsF;rw [if_neg (by omega),if_neg (by omega)];simp
 rw [hs]
 clear hs
 go_enter Tryz.func205,Tryz.ntmps205
 go_wp2_with fail
 refine (put_any mb (-nx) k k (nx+1) ls lins r ex v _ G _ (by omega) HM1.out (by omega) (by omega) (by omega) hlen (DAt.mono (fun k hk=>by rw [HSW.out];exact hk.1) _ _ HD1.out)).mono ?_
 rintro e w1 ⟨rfl,v1,r1,hM,hf,hmd⟩
 have hD2:DAt w1 (Apart w mb r) (.sl (dints ls)) [.slice a ls.length cap]:=DAt.agree (hmd.agree (fun k hk=>⟨by rw [HSW.out];exact hk.1,fun h=>by rcases h with h | h;exact hk.2.1 h;exact hk.2.2 h⟩)) _ _ HD1.out
 have hs1:w.heap.size<=w1.heap.size:=by have:=hmd.size;rw [HSW.out] at this;exact this
 have HD2:=Lh hD2
 have HMP:=Lh (aI hM (aI hf hmd))
 clear hD2 hM hf hmd
 go_wp2_with fail
 refine (clone_ne ls _ _ _ HD2.out (by omega) hlen (fun k hk=>Nat.lt_of_lt_of_le hk.1 hs1)).mono ?_
 rintro e w2 ⟨g,gcap,rfl,hO,hg,hb2⟩
 have HO:=Lh hO
 have HB2:=Lh hb2
 clear hO hb2
 go_wp2_with fail
 go_loopw [46,10] (fun i _ wr=>∃ (j:Nat),i=.int .i64 j/\j<=ls.length/\Chalk.Own wr (fun _=>False) 3 1 (.slice (some ⟨g,0,none⟩) ls.length gcap) (some g) (dints (negs ls j))/\Below w1.heap.size w1 wr) (fun i _ _=>ls.length - (intOf i).toNat)
 case atStart=>exact ⟨0,rfl,Nat.zero_le _,by rw [negs_zero];exact HO.out,HB2.out⟩
 case round =>
  obtain ⟨j,rfl,hj,hO,hb⟩:=hrel
  by_cases hlt:j<ls.length
  ·have hy:=HLS.out ls[j] (List.getElem_mem hlt)
   obtain ⟨c1,c2,c3⟩:=hO.int_set (negs_length ls j hj).symm j (by rw [negs_length ls j hj];exact hlt) (-ls[j]) (by omega)
   rw [negs_at ls j hlt] at c1
   rw [negs_step ls j hlt] at c3
   have hbn:Below w1.heap.size w1 (wr.setCell ⟨g,j,none⟩ (.int .i64 (-ls[j]))):=hb.trans (((Chalk.Mod.refl (fun k=>k=g) wr).setCell (p:=⟨g,j,none⟩) (fun _=>rfl) _).below hb.size (fun k hk=>by omega))
   have HC3:=Lh c3
   have HBN:=Lh hbn
   generalize hyj:ls[j]=y at *
   clear hyj c3 hbn hO hb
   go_wp2_with fail
   go_roundw
   case rel=>exact ⟨j+1,by go_num,by omega,HC3.out,HBN.out⟩
   case measure=>simp [intOf];omega
  ·obtain rfl:j=ls.length:=by omega
   rw [negs_all] at hO
   have hsz:=hb.size
   have HO2:=Lh hO
   have HB:=Lh hb
   clear hO hb
   have HMW:=Lh (HMP.out.1.below HB.out)
   have HDN:Hid (DAt wr (·<wr.heap.size) (.sl (dints (ls.map (- ·)))) [.slice (some ⟨g,0,none⟩) ls.length gcap]):=HO2.out.read (G:=(·<wr.heap.size)) (fun _ h=>h.elim) (fun k hk=>HO2.out.row_lt hk) (by rw [dints_widths];simp)
   go_wp2_with fail
   refine (put_any mb nx (↑ls.length - k+1) (↑ls.length - k+1) (nx+1) (ls.map (- ·)) _ r1 ex v1 _ _ _ (by simp;omega) HMW.out (by omega) (by omega) (by omega) (by simpa using hlen) HDN.out).mono ?_
   intro e w3 hp
   have HP:=Lh hp
   obtain ⟨rfl,_⟩:=hp
   go_wp2_with fail
   go_ret
   obtain ⟨h1,h2,h3⟩:=HMP.out
   have hm3:w.heap.size<=w3.heap.size:=by obtain ⟨_,_,_,_,_,m⟩:=HP.out;have:=m.size;omega
   have hm4:w1.heap.size<=w3.heap.size:=by obtain ⟨_,_,_,_,_,m⟩:=HP.out;have:=m.size;omega
   exact LitPost.next (x:=.tuple #[]) (e:=.returned (.tuple #[])) (HW.out.trans h3 (fun _ _ h=>h)) (by rw [HSW.out] at h2;exact h2) HB.out HP.out (fun k hk=>by rcases hk with h | h;exact .inl h;rw [HSW.out] at h;exact .inr ⟨h.1,by omega⟩) HG.out

theorem fresh_ok (mb:Nat) (k nx:Int) (ls:List Int) (lins:List Lin) (r:Option Nat) (ex:List Value) (v vL:Value) (G:Nat->Prop) (w:World) (M:MkAt w G mb 210 139 ex v nx lins r) (hlins:lins.length<=3999999) (hnx1:1<=nx) (hnx:nx<=65536)
  (hd:DAt w (Apart w mb r) (.sl (dints ls)) [vL]) (hk2 : -1000000000000000000<=k/\k<=1000000000000000000) (hlen:ls.length<=1000000) (hls:∀ y∈ls,-1000000000000000000<=y/\y<=1000000000000000000) :
  Calls Tryz.prog 205 #[.pointer (some ⟨mb,0,none⟩),.int .i64 k,vL] w (LitPost w G mb 210 139 ex lins r (.int .i64 nx) (sumsF nx k ls) (nx+1)):=by
 by_cases h:k<=0∨(0<k/\(ls.length:Int)<k)
 ·exact fresh_low mb k nx ls lins r ex v vL G w M (by omega) hnx1 hnx hd h hk2 hlen
 ·exact fresh_mid mb k nx ls lins r ex v vL G w M hlins hnx1 hnx hd (by omega) (by omega) hlen hls

end Go.Proofs.YtjjkfgjnadaheaaGreatDoor
/- gate's kinds: the thresholds by kind. -/
namespace Go.Proofs.YtjjkfgjnadaheaaGreatDoor
open Go.RowKit Go.Chalk
def kindsEs:Array MapEntry:=#[{ key:=.int .i64 1,val:=.func (.func 199) #[] #[],born:=0 },{ key:=.int .i64 4,val:=.func (.func 200) #[] #[],born:=1 },{ key:=.int .i64 5,val:=.func (.func 198) #[] #[],born:=2 },{ key:=.int .i64 6,val:=.func (.func 201) #[] #[],born:=3 }]
def KindsAt (w:World) (kb:Nat):Prop:=w.heap[kb]?=some (.map kindsEs 4)

theorem look_int {P:Program} (w:World) (T K E:TypeId) (kb:Nat) (es:Array MapEntry) (clock:Nat) (k:Int) (i:Nat) (v:Value) (hT:P.underlying T=some (.map K E)) (hK:P.underlying K=some (.int .i64)) (h:w.heap[kb]?=some (.map es clock))
  (hf:Instr.findNow (.int .i64) (.int .i64 k) es.toList 0=some (some (i,v))):(Instr.lookup T (.map (some kb)) (.int .i64 k) false).run P w=.ok v w:=by
 unfold Instr.lookup
 simp only [Sem.run_bind,run_underlying hT,Result.andThen_ok,MapKept.run_getObj_map h,Sem.run_pure,MapKept.run_checkKey (P:=P) hK (k:=.int .i64 k) rfl,MapKept.run_findKey hK hf]
 rfl
theorem kinds_look (w:World) (kb:Nat) (h:KindsAt w kb) (k:Int) (f:Nat) (hk:(k=1/\f=199)∨(k=4/\f=200)∨(k=5/\f=198)∨(k=6/\f=201)) :
  (Instr.lookup 207 (.map (some kb)) (.int .i64 k) false).run Tryz.prog w=.ok (.func (.func f) #[] #[]) w:=by
 unfold KindsAt at h
 rcases hk with ⟨rfl,rfl⟩ | ⟨rfl,rfl⟩ | ⟨rfl,rfl⟩ | ⟨rfl,rfl⟩ <;> exact look_int w _ _ _ kb _ _ _ _ _ Tryz.underlying207 Tryz.underlying3 h rfl

theorem set_push {α:Type} (a:Array α) (x y:α):(a.push x).setIfInBounds a.size y=a.push y:=by
 apply Array.ext_getElem?
 intro i
 rw [Array.getElem?_setIfInBounds,Array.getElem?_push,Array.getElem?_push]
 by_cases h:a.size=i
 ·subst h;simp
 ·rw [if_neg h,if_neg (fun e=>h e.symm),if_neg (fun e=>h e.symm)]
theorem put_int {P:Program} (w:World) (T K E:TypeId) (es:Array MapEntry) (clock:Nat) (k:Int) (v:Value) (hT:P.underlying T=some (.map K E)) (hK:P.underlying K=some (.int .i64)) (hf:Instr.findNow (.int .i64) (.int .i64 k) es.toList 0=some none) :
  (Instr.mapUpdate T (.map (some w.heap.size)) (.int .i64 k) v).run P (w.alloc (.map es clock))=.ok () (w.alloc (.map (es.push { key:=.int .i64 k,val:=v,born:=clock }) (clock+1))):=by
 have h:(w.alloc (.map es clock)).heap[w.heap.size]?=some (.map es clock):=(MapKept.heap_alloc w _).1
 unfold Instr.mapUpdate
 simp only [Sem.run_bind,run_underlying hT,Result.andThen_ok,MapKept.run_getObj_map h,MapKept.run_checkKey (P:=P) hK (k:=.int .i64 k) rfl,MapKept.run_findKey hK hf,MapKept.run_setObj_map _ h]
 have e:(w.alloc (.map es clock)).heap=w.heap.push (.map es clock):=rfl
 rw [e,set_push]
 rfl

theorem kinds_any (w:World):Calls Tryz.prog 142 #[] w fun e w'=>e=.returned (.map (some w.heap.size))/\w'=w.alloc (.map kindsEs 4):=by
 have hmm := @run_makeMap Tryz.prog
 have h1:=put_int (P:=Tryz.prog) w 207 _ _ #[] 0 1 (.func (.func 199) #[] #[]) Tryz.underlying207 Tryz.underlying3 rfl
 have h2:=put_int (P:=Tryz.prog) w 207 _ _ #[{ key:=.int .i64 1,val:=.func (.func 199) #[] #[],born:=0 }] 1 4 (.func (.func 200) #[] #[]) Tryz.underlying207 Tryz.underlying3 rfl
 have h3:=put_int (P:=Tryz.prog) w 207 _ _ #[{ key:=.int .i64 1,val:=.func (.func 199) #[] #[],born:=0 },{ key:=.int .i64 4,val:=.func (.func 200) #[] #[],born:=1 }] 2 5 (.func (.func 198) #[] #[]) Tryz.underlying207 Tryz.underlying3 rfl
 have h4:=put_int (P:=Tryz.prog) w 207 _ _ #[{ key:=.int .i64 1,val:=.func (.func 199) #[] #[],born:=0 },{ key:=.int .i64 4,val:=.func (.func 200) #[] #[],born:=1 },{ key:=.int .i64 5,val:=.func (.func 198) #[] #[],born:=2 }] 3 6 (.func (.func 201) #[] #[]) Tryz.underlying207 Tryz.underlying3 rfl
 simp only [List.push_toArray,List.nil_append,List.cons_append,Nat.zero_add,Nat.reduceAdd] at h1 h2 h3 h4
 go_enter Tryz.func142,Tryz.ntmps142
 go_wp2_with fail
 go_ret
 exact ⟨rfl,rfl⟩

theorem thr_const (w:World) (kind v k:Int) (a:Option Addr) (n cap:Nat) (hv:0<=v/\v<=1):Calls Tryz.prog 199 #[.agg #[.int .i64 kind,.int .i64 v,.int .i64 k,.slice a n cap]] w fun e w'=>e=.returned (.int .i64 (1 - v))/\Below w.heap.size w w':=by
 go_enter Tryz.func199,Tryz.ntmps199
 go_wp2_with fail
 go_ret
 exact ⟨rfl,(Below.refl _ _).alloc (Nat.le_refl _) _⟩
theorem thr_and (w:World) (kind v k:Int) (a:Option Addr) (n cap:Nat) (hn:n<=1000000000):Calls Tryz.prog 200 #[.agg #[.int .i64 kind,.int .i64 v,.int .i64 k,.slice a n cap]] w fun e w'=>e=.returned (.int .i64 n)/\Below w.heap.size w w':=by
 go_enter Tryz.func200,Tryz.ntmps200
 go_wp2_with fail
 go_ret
 exact ⟨rfl,(Below.refl _ _).alloc (Nat.le_refl _) _⟩
theorem thr_or (w:World) (kind v k:Int) (a:Option Addr) (n cap:Nat):Calls Tryz.prog 198 #[.agg #[.int .i64 kind,.int .i64 v,.int .i64 k,.slice a n cap]] w fun e w'=>e=.returned (.int .i64 1)/\Below w.heap.size w w':=by
 go_enter Tryz.func198,Tryz.ntmps198
 go_wp2_with fail
 go_ret
 exact ⟨rfl,(Below.refl _ _).alloc (Nat.le_refl _) _⟩
theorem thr_least (w:World) (kind v k:Int) (a:Option Addr) (n cap:Nat):Calls Tryz.prog 201 #[.agg #[.int .i64 kind,.int .i64 v,.int .i64 k,.slice a n cap]] w fun e w'=>e=.returned (.int .i64 k)/\Below w.heap.size w w':=by
 go_enter Tryz.func201,Tryz.ntmps201
 go_wp2_with fail
 go_ret
 exact ⟨rfl,(Below.refl _ _).alloc (Nat.le_refl _) _⟩

end Go.Proofs.YtjjkfgjnadaheaaGreatDoor
/- gate's (*maker).literal. -/
namespace Go.Proofs.YtjjkfgjnadaheaaGreatDoor
open Go.RowKit Go.Chalk
theorem litsF_append:∀ (a b:List Tr) (nx:Int),(litsF (a++b) nx).2.2=(litsF b (litsF a nx).2.2).2.2
 | [],b,nx=>by simp [litsF]
 | t :: a,b,nx=>by rw [List.cons_append,litsF,litsF];exact litsF_append a b _
theorem litsF_take_le (l:List Tr) (nx N:Int) (j:Nat) (h:mayAll l N=true) (hnx:1<=nx):(litsF (l.take j) nx).2.2<=(litsF l nx).2.2:=by
 have e:(litsF l nx).2.2=(litsF (l.drop j) (litsF (l.take j) nx).2.2).2.2:=by rw [<- litsF_append,List.take_append_drop]
 have h1:=litsF_bound (l.take j) nx N (mayAll_take h j) hnx
 have h2:mayAll (l.drop j) N=true:=by
  rw [mayAll_eq] at h ⊢
  rw [List.all_eq_true] at h ⊢
  exact fun x hx=>h x (List.mem_of_mem_drop hx)
 have h3:=litsF_bound (l.drop j) (litsF (l.take j) nx).2.2 N h2 (by omega)
 omega

def LitOut (w:World) (G:Nat->Prop) (mb:Nat) (ex:List Value) (ls:List Lin) (r:Option Nat) (x:Value) (new:List Lin) (nx':Int) (e:Ending) (w':World):Prop :=
 (65537<nx'/\Stops (fun k=>k=mb∨r=some k) w e w')∨(nx'<=65537/\LitPost w G mb 210 139 ex ls r x new nx' e w')

theorem LitRel.done {w wr:World} {G:Nat->Prop} {mb:Nat} {tm tl ti:TypeId} {ex:List Value} {ls:List Lin} {r r' q:Option Nat} {bx:Obj} {l:List Tr} {nx:Int} {j:Nat} {lv v' x:Value} (hG:∀ k,G k->k<w.heap.size)
  (R:LitRel w wr G mb tm tl ti ex ls r bx l nx j lv v' r' q):LitPost w G mb tm tl ex ls r x (litsF (l.take j) nx).2.1 (litsF (l.take j) nx).2.2 (.returned x) wr:=by
 have hs:=R.size
 refine ⟨rfl,v',r',R.maker.mono (fun k hk=>?_) (fun k hk=>?_),R.fresh,R.mod⟩
 ·rcases hk with h | h
  ·exact .inl h
  ·exact .inr ⟨by omega,h.2.1⟩
 ·rcases hk with h | h
  ·have:=hG k h;omega
  ·exact h.2

theorem KindsAt.kept {w w':World} {S:Nat->Prop} {kb:Nat} (h:KindsAt w kb) (hm:Chalk.Mod S w w') (hk:¬ S kb):KindsAt w' kb:=by
 unfold KindsAt at *
 rw [hm.block kb (gS h).1 hk];exact h

theorem fresh_stop2 (mb:Nat) (k nx:Int) (lins:List Lin) (r:Option Nat) (ex:List Value) (v:Value) (a:Option Addr) (n cap:Nat) (G:Nat->Prop) (w:World) (M:MkAt w G mb 210 139 ex v nx lins r) (hnx:65536<nx) (hnx2:nx<=9223372036854775807) :
  Calls Tryz.prog 205 #[.pointer (some ⟨mb,0,none⟩),.int .i64 k,.slice a n cap] w (fun e w'=>Stops (fun _=>False) w e w'∨(Hid False/\e=.returned (.int .i64 0))) :=
 (fresh_stop mb k nx lins r ex v a n cap G w M hnx hnx2 _).mono (fun _ _ h=>.inl h)

theorem below_drew {w w3:World} (h:Below w.drew.heap.size w.drew w3):Below w.heap.size w w3:=⟨h.os,h.tape,h.output,h.size,h.block⟩

theorem LitRel.stop {w wr w3 w4:World} {G:Nat->Prop} {mb:Nat} {tm tl ti:TypeId} {ex:List Value} {ls:List Lin} {r r' q:Option Nat} {bx:Obj} {l:List Tr} {nx:Int} {j:Nat} {lv v':Value}
  (R:LitRel w wr G mb tm tl ti ex ls r bx l nx j lv v' r' q) (hb:Below wr.heap.size wr w3) (hm:Chalk.Mod (fun _=>False) w3 w4):Chalk.Mod (fun k=>k=mb∨r=some k) w w4 :=
 (R.mod.trans (Chalk.Mod.of_below (S:=fun _=>False) hb) (fun _ _ h=>h.elim)).trans hm (fun _ _ h=>h.elim)
theorem LitRel.good {w wr w3 w4:World} {G:Nat->Prop} {mb:Nat} {tm tl ti:TypeId} {ex:List Value} {ls lins new:List Lin} {r r' q:Option Nat} {bx:Obj} {l:List Tr} {nx nx2:Int} {j:Nat} {lv v' x:Value} {e:Ending} (hG:∀ k,G k->k<w.heap.size)
  (R:LitRel w wr G mb tm tl ti ex ls r bx l nx j lv v' r' q) (hb:Below wr.heap.size wr w3) (hp:LitPost w3 (fun k=>G k∨(w.heap.size<k/\k<wr.heap.size/\q ≠ some k)) mb tm tl ex (ls++lins) r' x new nx2 e w4) :
  LitPost w G mb tm tl ex ls r x (lins++new) nx2 (.returned x) w4:=by
 have h1:=hb.size
 have h2:w3.heap.size<=w4.heap.size:=by obtain ⟨_,_,_,_,_,m⟩:=hp;exact m.size
 exact LitPost.next R.mod R.fresh hb hp (fun k hk=>by rcases hk with h | h;exact .inl h;exact .inr ⟨by omega,by omega⟩) hG

theorem lit_own (n:Nat):∀ (t:Tr) (x:Value) (N nx:Int) (v:Value) (ls:List Lin) (r:Option Nat) (w:World) (B0 mb kb:Nat) (G:Nat->Prop),t.size<=n->mayB t N=true->N<=65536->1<=nx->nx<=65537->nx+t.size<=1000000->ls.length+2*t.size<=1000000 ->
  TreeV w (·<B0) t x->B0<=w.heap.size->B0<=mb->(∀ k,G k->B0<=k)->KindsAt w kb->kb ≠ mb->¬ G kb->MkAt w G mb 210 139 [.map (some kb)] v nx ls r ->
  Calls Tryz.prog 146 #[.pointer (some ⟨mb,0,none⟩),x] w (LitOut w G mb [.map (some kb)] ls r (.int .i64 (litF t nx).1) (litF t nx).2.1 (litF t nx).2.2):=by
 induction n with
 | zero=>intro t _ _ _ _ _ _ _ _ _ _ _ h;have:=size_pos t;omega
 | succ n ih =>
  intro t x N nx v ls r w B0 mb kb G hn hmay hN hnx hnxm hsz hls ht hB0 hmb hG hK hkm hkG hM
  obtain ⟨kind,tv,k,l⟩:=t
  obtain ⟨a,b,o,cap,rfl,hsl,_,_,_,_,_,hl⟩:=ht.open
  have hbd:=litF_bound _ nx N hmay hnx
  rw [mayB,Bool.and_eq_true] at hmay
  obtain ⟨hnode,hall⟩:=hmay
  have hcs:=nodeOk_true hnode
  rw [Tr.size] at hn hsz hls
  have hll:=length_le_sizes l
  have IH:=Lh ih
  have HL:=Lh hl
  have HM:=Lh hM
  have HA:=Lh hall
  have HB:=Lh hbd
  have HK:=Lh hK
  have HKG:=Lh hkG
  have HKM:=Lh hkm
  have hkr:r ≠ some kb:=fun e=>hkG (hM.row kb e).1
  have HKR:=Lh hkr
  have HKL:Hid (kb<w.heap.size):=(gS hK).1
  clear ih hl ht hM hnode hall hbd hK hkG hkm hkr
  by_cases h2:kind=2
  ·subst h2
   have e1:litF (.mk 2 tv k l) nx=(tv,[],nx):=by rw [litF,if_pos rfl]
   rw [e1]
   clear hcs e1 HB
   go_enter Tryz.func146,Tryz.ntmps146
   go_wp2_with fail
   go_ret
   exact .inr ⟨hnxm,LitPost.same HM.out ((Below.refl _ _).alloc (Nat.le_refl _) _)⟩
  ·have hk2:(kind==2)=false:=by simpa using h2
   have hlit:(litF (.mk kind tv k l) nx).2.2=if kind=3 then (litsF l nx).2.2 else (litsF l nx).2.2+1:=by
    rw [litF,if_neg h2];split <;> rfl
   have HLIT:=Lh hlit
   have HCS:=Lh hcs
   have H2:=Lh h2
   clear hcs h2 HB hlit
   obtain ⟨i0,hi,hz0,hz1,hz2⟩:=info_parts sums_info
   go_enter Tryz.func146,Tryz.ntmps146
   go_wp2_with fail
   go_loopw [16,5,7] (fun i lv _ wr=>∃ (j:Nat) (v':Value) (r' q:Option Nat),i=.int .i64 j/\(litsF (l.take j) nx).2.2<=65537/\LitRel w wr G mb 210 139 3 [.map (some kb)] ls r (.cells #[.int .i64 kind,.int .i64 tv,.int .i64 k,.slice a l.length cap] 39) l nx j lv v' r' q) (fun i _ _ _=>l.length - (intOf i).toNat)
   case atStart=>exact ⟨0,v,r,none,rfl,hnxm,LitRel.start _ l HM.out⟩
   case round =>
    obtain ⟨j,v',r',q,rfl,hmx,R⟩:=hrel
    have hj:=R.le
    have hb:Below B0 w wr:=R.mod.below hB0 (fun k hk=>by rcases hk with rfl | hk;exact hmb;exact hG k (HM.out.row k hk).1)
    have hsize:=R.size
    have hKr:KindsAt wr kb:=HK.out.kept R.mod (fun h=>by rcases h with h | h;exact HKM.out h;exact HKR.out h)
    have HKr:=Lh hKr
    clear hKr
    by_cases hlt:j<l.length
    ·obtain ⟨rfl,hbl⟩:=hsl (by omega)
     obtain ⟨k0,k1,k2,a1,n1,cap1,e0,e1,e2,e3,htj⟩:=TreesIn.at HL.out hb hbl j hlt
     have hma:=mayAll_at HA.out j hlt
     have hs1:=sizes_take_succ l j hlt
     have hs2:=sizes_take_le l (j+1)
     have hb1:=litsF_bound (l.take j) nx N hma.2 hnx
     have hb2:=litF_bound l[j] (litsF (l.take j) nx).2.2 N hma.1 (by omega)
     have hb3:=litsF_lins (l.take j) nx
     have hb4:=litsF_length (l.take j) nx
     have hb5:(l.take j).length<=l.length:=by simp;omega
     have hb6:=litsF_take_le l nx N (j+1) HA.out hnx
     rw [List.take_succ_eq_append_getElem hlt,litsF_snoc] at hb6
     have hIH:=IH.out l[j] _ N (litsF (l.take j) nx).2.2 v' (ls++(litsF (l.take j) nx).2.1) r' (wr.alloc (.cells #[.int .i64 k0,.int .i64 k1,.int .i64 k2,.slice a1 n1 cap1] 39)) B0 mb kb _ (by omega) hma.1 hN (by omega) hmx (by omega) (by rw [List.length_append];omega)
      (htj.agree (agree_of_below (hb.alloc (by omega) _))) (by simp;omega) hmb (fun k hk=>by rcases hk with h | h;exact hG k h;omega) (HKr.out.kept (S:=fun _=>False) ((Chalk.Mod.refl _ _).alloc _) id) HKM.out (fun h=>by rcases h with h | h;exact HKG.out h;have:=HKL.out;omega) (R.maker.below ((Below.refl _ _).alloc (Nat.le_refl _) _))
     have HI:=Lh hIH
     have HR:=Lh R
     have hlen:(litsF (l.take j) nx).1.length<=1000000:=by omega
     have hyb : -9223372036854775808<=(litF l[j] (litsF (l.take j) nx).2.2).1/\(litF l[j] (litsF (l.take j) nx).2.2).1<=9223372036854775807:=by omega
     have HB6:=Lh hb6
     clear hIH R hma hs1 hs2 hb1 hb2 hb3 hb4 hb5 hb6
     generalize hy:(litF l[j] (litsF (l.take j) nx).2.2).1=y at hyb
     have HY:=Lh hy
     clear hy
     go_wp2_with fail
     refine HI.out.mono ?_
     intro e w2 hp
     rcases hp with ⟨hx,hst⟩ | ⟨hx,hp⟩
     ·obtain ⟨rfl,hmd⟩:=hst
      have HMD:=Lh hmd
      have HX:=Lh hx
      clear hmd hx
      go_wp2_with fail
      refine ⟨rfl,.inl ⟨?_,rfl,?_⟩⟩
      ·have h6:=HB6.out;have hx:=HX.out;rw [HLIT.out];split <;> omega
      ·refine (HR.out.mod.trans ((Chalk.Mod.refl (fun _=>False) wr).alloc _) (fun _ _ h=>h.elim)).trans HMD.out (fun i hi h=>?_)
       rcases h with h | h
       ·exact .inl h
       ·rcases HR.out.fresh with f | ⟨k,f,hk⟩
        ·exact .inr (f ▸ h)
        ·rw [f] at h;simp at h;omega
     ·have HP:=Lh hp
      have HX:=Lh hx
      clear hx
      obtain ⟨rfl,hp⟩:=hp
      clear hp
      rw [HY.out]
      have row:=HR.out.row2 (b2:=.cells #[.int .i64 y] 3) HM.out.lt HM.out.inn HP.out
      go_upto_region 8 with (at_builtin;go_must (refine wpList_append_lies _ rfl _ _ 90 rfl 0 3 i0 (.int .i64 0) 1 8 Tryz.underlying90 hi hz0 hz1 hz2 rfl (by decide) _ _ _ rfl row ⟨w2.heap.size,0,none⟩ 1 1 [.int .i64 y] rfl rfl (cell_one_new _ _ _) (by simp [Value.oneCell']) (by omega) (by unfold maxLen;omega) (by omega) (Nat.zero_le _) (w2.heap.size+1) (by simp) ?_);intro g cp wz hown hgrow hat hglt;have HO:=Lh hown;have HG:=Lh hgrow;have HAT:=Lh hat;clear hown hgrow hat)
      go_wp2_with fail
      obtain ⟨v2,r2,R2⟩:=LitRel.step HM.out.lt HM.out.inn (fun k hk=>HM.out.inn k (HM.out.row k hk).1) HR.out hlt HP.out (by rw [HY.out];exact hyb) (by rw [HY.out];exact HO.out) HG.out HAT.out
      exact ⟨⟨j+1,v2,r2,some g,by go_num,by rw [List.take_succ_eq_append_getElem hlt,litsF_snoc];exact HX.out,R2⟩,by simp [intOf];omega⟩
    ·have hjl:j=l.length:=by omega
     have htk:l.take j=l:=List.take_of_length_le (by omega)
     have hmk:=R.maker
     have hli:=R.lits
     have hdone:=LitRel.done (x:=.int .i64 (litF (.mk kind tv k l) nx).1) HM.out.inn R
     rw [htk] at hmk hli hmx hdone
     have hb1:=litsF_bound l nx N HA.out hnx
     have hb3:=litsF_lins l nx
     have hb4:=litsF_length l nx
     clear htk
     obtain ⟨q0,q1,q2,q3⟩:=(show wr.cell? ⟨w.heap.size,0,none⟩=some (.int .i64 kind)/\wr.cell? ⟨w.heap.size,1,none⟩=some (.int .i64 tv)/\wr.cell? ⟨w.heap.size,2,none⟩=some (.int .i64 k)/\wr.cell? ⟨w.heap.size,3,none⟩=some (.slice a l.length cap) from ⟨cH R.box rfl,cH R.box rfl,cH R.box rfl,cH R.box rfl⟩)
     have p2:wr.cell? ⟨mb,2,none⟩=some (.map (some kb)):=cH hmk.box rfl
     have hxs:∀ y∈(litsF l nx).1,-1000000000000000000<=y/\y<=1000000000000000000:=fun y hy=>by have:=hb1.2.2 y hy;omega
     have HXS:=Lh hxs
     have HN2:=Lh hb4
     have hnx2:1<=(litsF l nx).2.2/\(litsF l nx).2.2<=1000000:=by omega
     have hlen2:(litsF l nx).1.length<=1000000:=by omega
     have hlins2:(ls++(litsF l nx).2.1).length<=999998:=by rw [List.length_append];omega
     have hlpos:kind=3->∃ y,(litsF l nx).1=[y]:=by
      intro h3
      have hl1:l.length=1:=by
       rcases HCS.out with hc | hc | hc | hc | hc | hc | hc <;> first | omega | (have:=hc.2.2.2;simp at this;omega)
      rw [hl1] at hb4
      exact List.length_eq_one_iff.1 hb4
     have HLP:=Lh hlpos
     have HR:=Lh R
     have HMK:=Lh hmk
     have HLI:=Lh hli
     have HDN:=Lh hdone
     clear R hb1 hb3 hb4 hxs hmk hli hjl hb hlpos hdone
     by_cases h3:kind=3
     ·subst h3
      obtain ⟨y,hy⟩:=HLP.out rfl
      have hyb:=HXS.out y (by rw [hy];simp)
      have hy0:(litF (.mk 3 tv k l) nx).1 = -y:=by rw [litF,if_neg (by omega),if_pos rfl,hy];rfl
      have hy1:(litF (.mk 3 tv k l) nx).2.1=(litsF l nx).2.1:=by rw [litF,if_neg (by omega),if_pos rfl]
      have hy2:(litF (.mk 3 tv k l) nx).2.2=(litsF l nx).2.2:=by rw [litF,if_neg (by omega),if_pos rfl]
      have HY:=Lh (aI hy0 (aI hy1 hy2))
      have hlv:=HLI.out
      rw [hy] at hlv
      obtain ⟨hrow,_⟩:=hlv.int_cells
      obtain ⟨g,gcap,hv⟩:=own_slice (n:=0) hrow
      subst hv
      have hcell:wr.cell? ⟨g,0,none⟩=some (.int .i64 y):=by rw [hrow.cellAt 0 (by simp)];simp
      clear hy hy0 hy1 hy2 hlv hrow
      go_wp2_with fail
      go_ret
      obtain ⟨e0,e1,e2⟩:=HY.out
      have hd:=HDN.out
      rw [e0] at hd
      rw [e0,e1,e2]
      exact .inr ⟨hmx,hd⟩
     ·have hk3:(kind==3)=false:=by simpa using h3
      have hl0:(litF (.mk kind tv k l) nx).1=(litsF l nx).2.2:=by rw [litF,if_neg H2.out,if_neg h3]
      have hl1:(litF (.mk kind tv k l) nx).2.1=(litsF l nx).2.1++sumsF (litsF l nx).2.2 (thrF kind tv k l.length) (litsF l nx).1:=by rw [litF,if_neg H2.out,if_neg h3]
      have hl2:(litF (.mk kind tv k l) nx).2.2=(litsF l nx).2.2+1:=by rw [litF,if_neg H2.out,if_neg h3]
      have HLF:=Lh (aI hl0 (aI hl1 hl2))
      clear hl0 hl1 hl2 h3
      have hmkl:mb<wr.heap.size:=HMK.out.lt
      obtain ⟨la,lcap,hlv⟩:=HLI.out.form
      rw [dints_length] at hlv
      subst hlv
      obtain ⟨F,y,hlk,hthr,hcf,hy,hyb⟩:∃ (F:Nat) (y:Int),(Instr.lookup 207 (.map (some kb)) (.int .i64 kind) false).run Tryz.prog wr.drew=.ok (.func (.func F) #[] #[]) wr.drew /\
        (∀ W:World,Calls Tryz.prog F #[.agg #[.int .i64 kind,.int .i64 tv,.int .i64 k,.slice a l.length cap]] W fun e w'=>e=.returned (.int .i64 y)/\Below W.heap.size W w')/\(∀ (args:Array Value) (W:World),(callFunc F args).run Tryz.prog W=.ok (.enter F args) W)/\y=thrF kind tv k l.length /\ -1000000000000000000<=y/\y<=1000000000000000000:=by
       rcases HCS.out with ⟨rfl,rfl,rfl,_⟩ | ⟨rfl,rfl,rfl,_⟩ | ⟨rfl,_⟩ | ⟨rfl,_⟩ | ⟨rfl,rfl,rfl⟩ | ⟨rfl,rfl,rfl⟩ | ⟨rfl,rfl,hk1,hk4⟩
       ·exact ⟨_,_,kinds_look wr.drew kb HKr.out _ _ (.inl ⟨rfl,rfl⟩),fun W=>thr_const W _ _ _ _ _ _ (by omega),fun _ _=>by rfl,(thrF_10 _ _).symm,by omega,by omega⟩
       ·exact ⟨_,_,kinds_look wr.drew kb HKr.out _ _ (.inl ⟨rfl,rfl⟩),fun W=>thr_const W _ _ _ _ _ _ (by omega),fun _ _=>by rfl,(thrF_11 _ _).symm,by omega,by omega⟩
       ·cases hk2
       ·cases hk3
       ·exact ⟨_,_,kinds_look wr.drew kb HKr.out _ _ (.inr (.inl ⟨rfl,rfl⟩)),fun W=>thr_and W _ _ _ _ _ _ (by omega),fun _ _=>by rfl,(thrF_4 _ _ _).symm,by omega,by omega⟩
       ·exact ⟨_,_,kinds_look wr.drew kb HKr.out _ _ (.inr (.inr (.inl ⟨rfl,rfl⟩))),fun W=>thr_or W _ _ _ _ _ _,fun _ _=>by rfl,(thrF_5 _ _ _).symm,by omega,by omega⟩
       ·exact ⟨_,_,kinds_look wr.drew kb HKr.out _ _ (.inr (.inr (.inr ⟨rfl,rfl⟩))),fun W=>thr_least W _ _ _ _ _ _,fun _ _=>by rfl,(thrF_6 _ _ _).symm,by omega,by omega⟩
      have HTHR:=Lh hthr
      have HTY:=Lh hy
      clear hthr hy
      have HDL:Hid (∀ w3,Below wr.heap.size wr w3->DAt w3 (Apart w3 mb r') (.sl (dints (litsF l nx).1)) [.slice la (litsF l nx).1.length lcap]):=by
       intro w3 hb3
       have hO:=HLI.out.below hb3
       have hs:=hb3.size
       exact hO.read (G:=Apart w3 mb r') (fun _ h=>h.elim) (fun k hk=>by
        have h1:=HR.out.low k hk
        have h2:=HM.out.lt
        refine ⟨hO.row_lt hk,by omega,fun e=>?_⟩
        rcases (HMK.out.row k e).1 with h | h
        ·have:=HM.out.inn k h;omega
        ·exact h.2.2 hk) (by rw [dints_widths];simp)
      generalize hn2:(litsF l nx).2.2=nx2 at *
      generalize hx2:(litsF l nx).1=xs at *
      generalize hs2:(litsF l nx).2.1=lns at *
      clear hn2 hx2 hs2
      by_cases hov:65536<nx2
      ·go_wp2_with fail
       go_region_law (first | (go_simp;((with_reducible refine (HTHR.out _).mono ?_);rintro e w3 ⟨rfl,hb3⟩);have HB3:=Lh (below_drew hb3);clear hb3) | (go_simp;go_at_call 205;refine (fresh_stop2 mb _ nx2 _ r' _ v' _ _ _ _ _ (HMK.out.below HB3.out) hov (by omega)).mono ?_;rintro e w4 (⟨rfl,hmd⟩ | ⟨hF,rfl⟩);exact ⟨rfl,.inl ⟨by rw [HLF.out.2.2];omega,rfl,LitRel.stop HR.out HB3.out hmd⟩⟩))
       all_goals exact hF.out.elim
      ·go_wp2_with fail
       go_region_law (first | (go_simp;((with_reducible refine (HTHR.out _).mono ?_);rintro e w3 ⟨rfl,hb3⟩);have HB3:=Lh (below_drew hb3);clear hb3) | (go_simp;go_at_call 205;refine (fresh_ok mb _ nx2 xs _ r' _ v' _ _ _ (HMK.out.below HB3.out) (by omega) (by omega) (by omega) (HDL.out _ HB3.out) (by omega) hlen2 HXS.out).mono ?_;intro e w4 hp;have HP:=Lh hp;obtain ⟨rfl,hp⟩:=hp;clear hp))
       all_goals
        go_wp2_with fail
        go_ret
        rw [HLF.out.1,HLF.out.2.1,HLF.out.2.2]
        have hgd:=LitRel.good HM.out.inn HR.out HB3.out HP.out
        refine .inr ⟨by omega,?_⟩
        rw [<- HTY.out];exact hgd

end Go.Proofs.YtjjkfgjnadaheaaGreatDoor
/- The reference's (*Maker).literal: it encodes a well-formed tree. -/
namespace Go.Proofs.YtjjkfgjnadaheaaGreatDoor
open Go.RowKit Go.Chalk
end Go.Proofs.YtjjkfgjnadaheaaGreatDoor
