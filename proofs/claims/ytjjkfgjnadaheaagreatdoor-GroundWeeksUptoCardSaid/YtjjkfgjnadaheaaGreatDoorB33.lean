/- Joined texts: Box, GWk. -/
import Derived.Test.YtjjkfgjnadaheaaGreatDoorB14
import Derived.Test.YtjjkfgjnadaheaaGreatDoorB31
import Derived.Test.YtjjkfgjnadaheaaGreatDoorB08
set_option linter.unusedVariables false
set_option linter.unusedSimpArgs false
set_option maxHeartbeats 1000000
set_option maxRecDepth 100000

/- A list that grows in a box, while its elements lead into memory that is taken over round by round. -/
namespace Go.Chalk
open Go.RowKit
variable {P:Program}
def BoxOwn (W:World) (H:Nat) (t e:TypeId) (sz lo:Nat) (xs:List D) (T:Nat->Prop):Prop :=
 ∃ (v:Value) (r:Option Nat),W.heap[H]?=some (.cells #[v] t (0,0))/\T H/\(∀ k,r=some k->T k/\k ≠ H)/\(∀ k,T k->lo<=k/\k<W.heap.size)/\Chalk.Own W (fun k=>T k/\k ≠ H/\r ≠ some k) e sz v r xs
theorem BoxOwn.kept {W W':World} {H:Nat} {t e:TypeId} {sz lo:Nat} {xs:List D} {T S:Nat->Prop} (h:BoxOwn W H t e sz lo xs T) (hm:Mod S W W') (hS:∀ k,S k->¬ T k):BoxOwn W' H t e sz lo xs T:=by
 obtain ⟨v,r,h1,h2,h3,h4,h5⟩:=h
 exact ⟨v,r,heap_kept h1 hm (fun h=>hS _ h h2),h2,h3,fun k hk=>⟨(h4 k hk).1,Nat.lt_of_lt_of_le (h4 k hk).2 hm.size⟩,h5.kept hm (fun k hk hk'=>hS k hk' hk.1) (fun k hk hk'=>hS k hk' (h3 k hk).1)⟩
theorem BoxOwn.take {W:World} {H:Nat} {t e:TypeId} {sz lo:Nat} {xs:List D} {T S:Nat->Prop} (h:BoxOwn W H t e sz lo xs T) (hS:∀ k,S k->lo<=k/\k<W.heap.size/\¬ T k):BoxOwn W H t e sz lo xs (fun k=>T k∨S k):=by
 obtain ⟨v,r,h1,h2,h3,h4,h5⟩:=h
 refine ⟨v,r,h1,.inl h2,fun k hk=>⟨.inl (h3 k hk).1,(h3 k hk).2⟩,fun k hk=>?_,h5.widen (fun k hk=>⟨.inl hk.1,hk.2⟩) (fun k hk hk'=>hk'.2.2 hk) (fun k hk=>?_)⟩
 ·rcases hk with hk | hk
  ·exact h4 k hk
  ·exact ⟨(hS k hk).1,(hS k hk).2.1⟩
 ·rcases hk.1 with hk | hk
  ·exact (h4 k hk).2
  ·exact (hS k hk).2.1
theorem BoxOwn.read {W:World} {H:Nat} {t e:TypeId} {sz lo:Nat} {xs:List D} {T:Nat->Prop} (h:BoxOwn W H t e sz lo xs T) (hw:widths xs=xs.length*sz):∃ x:SlA,W.heap[H]?=some (.cells #[x.val xs.length] t (0,0))/\SlIn W T xs x:=by
 obtain ⟨v,r,h1,h2,h3,h4,h5⟩:=h
 obtain ⟨x,e,hx⟩:=DAt.sl_iff.1 (h5.read (G:=T) (fun k hk=>hk.1) (fun k hk=>(h3 k hk).1) hw)
 simp only [List.cons.injEq,and_true] at e
 exact ⟨x,by rw [h1,e],hx⟩
theorem BoxOwn.low {W:World} {H:Nat} {t e:TypeId} {sz lo:Nat} {xs:List D} {T:Nat->Prop} (h:BoxOwn W H t e sz lo xs T):∀ k,T k->lo<=k/\k<W.heap.size:=by
 obtain ⟨_,_,_,_,_,h4,_⟩:=h;exact h4
end Go.Chalk
/- week: At, In. (written by tools/gen_gwk.py) -/
namespace Go.Proofs.YtjjkfgjnadaheaaGreatDoor
open Go.RowKit Go.Chalk
attribute [local go_sem] Oper.semAt_some
theorem mul_fit (a b:Nat) (ha:a<=2000000) (hb:b<=2000000) (i:Int) (h1:0<=i) (h2:i<=a):0<=i*(b:Int)/\i*(b:Int)<=4000000000000:=⟨Int.mul_nonneg h1 (by omega),by
 have h5:i*(b:Int)<=2000000*2000000:=Int.mul_le_mul (by omega) (by omega) (by omega) (by omega)
 omega⟩

theorem wat_any (s:Schl) (x:SchA) (i j:Int) (w:World) (hs1:s.lessons.length<=2000000) (hs2:s.slots.length<=2000000) (hs3:s.rooms.length<=2000000) :
  Calls Tryz.prog 44 #[.agg (x.cells s).toArray,.int .i64 i,.int .i64 j] w fun e w'=>e=.returned (.int .i64 (wkAt s i j))/\Below w.heap.size w w':=by
 have HWI:=Lh (fun n k W=>wwithin_any n k W)
 simp only [SchA.cells,SlA.val]
 unfold wkAt
 by_cases hi:0<=i/\i<(s.lessons.length:Int)
 ·have hi':(decide (0<=i)&&decide (i<(s.lessons.length:Int)))=true:=by simpa using hi
  by_cases hj:0<=j/\j<(s.slots.length:Int)
  ·have hj':(decide (0<=j)&&decide (j<(s.slots.length:Int)))=true:=by simpa using hj
   rw [if_pos ⟨hi,hj⟩]
   have hmu:=mul_fit _ _ hs1 hs2 i hi.1 (by omega)
   have hmv:=mul_fit _ _ hs1 hs2 s.lessons.length (by omega) (by omega)
   have hm0:=hmu.1
   have hm1:=hmu.2
   have hv0:=hmv.1
   have hv1:=hmv.2
   have hj0:=hj.1
   have hj1:=hj.2
   clear hi hj hmu hmv
   generalize hml:i*(s.slots.length:Int)=ml at hm0 hm1 ⊢
   clear hv0 hv1
   go_enter Tryz.func44,Tryz.ntmps44
   go_wp2_with (first | (go_at_call 93;refine (HWI.out _ _ _).mono ?_;rintro e w' ⟨rfl,rfl⟩;rw [hi']) | (go_at_call 93;refine (HWI.out _ _ _).mono ?_;rintro e w' ⟨rfl,rfl⟩;rw [hj']) | fail)
   go_ret
   exact ⟨rfl,(Below.refl _ _).alloc (Nat.le_refl _) _⟩
  ·have hj':(decide (0<=j)&&decide (j<(s.slots.length:Int)))=false:=by
    rw [Bool.eq_false_iff];intro h;simp at h;exact hj h
   rw [if_neg (fun h=>hj h.2)]
   clear hi hj
   go_enter Tryz.func44,Tryz.ntmps44
   go_wp2_with (first | (go_at_call 93;refine (HWI.out _ _ _).mono ?_;rintro e w' ⟨rfl,rfl⟩;rw [hi']) | (go_at_call 93;refine (HWI.out _ _ _).mono ?_;rintro e w' ⟨rfl,rfl⟩;rw [hj']) | fail)
   go_ret
   exact ⟨rfl,(Below.refl _ _).alloc (Nat.le_refl _) _⟩
 ·have hi':(decide (0<=i)&&decide (i<(s.lessons.length:Int)))=false:=by
   rw [Bool.eq_false_iff];intro h;simp at h;exact hi h
  rw [if_neg (fun h=>hi h.1)]
  have hj':True:=trivial
  clear hi
  go_enter Tryz.func44,Tryz.ntmps44
  go_wp2_with (first | (go_at_call 93;refine (HWI.out _ _ _).mono ?_;rintro e w' ⟨rfl,rfl⟩;rw [hi']) | fail)
  go_ret
  exact ⟨rfl,(Below.refl _ _).alloc (Nat.le_refl _) _⟩

theorem win_any (s:Schl) (x:SchA) (i j:Int) (w:World) (hs1:s.lessons.length<=2000000) (hs2:s.slots.length<=2000000) (hs3:s.rooms.length<=2000000) :
  Calls Tryz.prog 46 #[.agg (x.cells s).toArray,.int .i64 i,.int .i64 j] w fun e w'=>e=.returned (.int .i64 (wkIn s i j))/\Below w.heap.size w w':=by
 have HWI:=Lh (fun n k W=>wwithin_any n k W)
 simp only [SchA.cells,SlA.val]
 unfold wkIn
 by_cases hi:0<=i/\i<(s.lessons.length:Int)
 ·have hi':(decide (0<=i)&&decide (i<(s.lessons.length:Int)))=true:=by simpa using hi
  by_cases hj:0<=j/\j<(s.rooms.length:Int)
  ·have hj':(decide (0<=j)&&decide (j<(s.rooms.length:Int)))=true:=by simpa using hj
   rw [if_pos ⟨hi,hj⟩]
   have hmu:=mul_fit _ _ hs1 hs3 i hi.1 (by omega)
   have hmv:=mul_fit _ _ hs1 hs2 s.lessons.length (by omega) (by omega)
   have hm0:=hmu.1
   have hm1:=hmu.2
   have hv0:=hmv.1
   have hv1:=hmv.2
   have hj0:=hj.1
   have hj1:=hj.2
   clear hi hj hmu hmv
   generalize hml:i*(s.rooms.length:Int)=ml at hm0 hm1 ⊢
   generalize hmv:(s.lessons.length:Int)*(s.slots.length:Int)=mv at hv0 hv1 ⊢
   go_enter Tryz.func46,Tryz.ntmps46
   go_wp2_with (first | (go_at_call 93;refine (HWI.out _ _ _).mono ?_;rintro e w' ⟨rfl,rfl⟩;rw [hi']) | (go_at_call 93;refine (HWI.out _ _ _).mono ?_;rintro e w' ⟨rfl,rfl⟩;rw [hj']) | fail)
   go_ret
   exact ⟨rfl,(Below.refl _ _).alloc (Nat.le_refl _) _⟩
  ·have hj':(decide (0<=j)&&decide (j<(s.rooms.length:Int)))=false:=by
    rw [Bool.eq_false_iff];intro h;simp at h;exact hj h
   rw [if_neg (fun h=>hj h.2)]
   clear hi hj
   go_enter Tryz.func46,Tryz.ntmps46
   go_wp2_with (first | (go_at_call 93;refine (HWI.out _ _ _).mono ?_;rintro e w' ⟨rfl,rfl⟩;rw [hi']) | (go_at_call 93;refine (HWI.out _ _ _).mono ?_;rintro e w' ⟨rfl,rfl⟩;rw [hj']) | fail)
   go_ret
   exact ⟨rfl,(Below.refl _ _).alloc (Nat.le_refl _) _⟩
 ·have hi':(decide (0<=i)&&decide (i<(s.lessons.length:Int)))=false:=by
   rw [Bool.eq_false_iff];intro h;simp at h;exact hi h
  rw [if_neg (fun h=>hi h.1)]
  have hj':True:=trivial
  clear hi
  go_enter Tryz.func46,Tryz.ntmps46
  go_wp2_with (first | (go_at_call 93;refine (HWI.out _ _ _).mono ?_;rintro e w' ⟨rfl,rfl⟩;rw [hi']) | fail)
  go_ret
  exact ⟨rfl,(Below.refl _ _).alloc (Nat.le_refl _) _⟩
end Go.Proofs.YtjjkfgjnadaheaaGreatDoor
