/- Joined texts: Spec, LawConn, LawQuant, LawEnv, LawNest, LawNnf, LawAdd, Tuples, LawHold, Grd. -/
import Derived.Test.YtncnnbmeacpboaaGreatDoorN04
import Derived.Lib.IndexMore
set_option linter.unusedVariables false
set_option linter.unusedSimpArgs false
/- The layers school, week, formula, types and eval as functions of Lean data. No program is named here. -/
namespace Go.Chalk
def reservedS:Bs:=[32,104,97,114,100,32,115,111,102,116,32,101,97,99,104,32,97,108,108,32,115,111,109,101,32,108,101,97,115,116,32,109,111,115,116,32,116,114,117,101,32,102,97,108,115,101,32,97,116,32,105,110,32,116,101,97,99,104,101,115,32,97,116,116,101,110,100,115,32,97,119,97,121,32,115,104,117,116,32,100,97,121,32,104,111,117,114,32,104,111,117,115,101,32,115,101,97,116,115,32,115,105,122,101,32,108,101,115,115,111,110,32,115,108,111,116,32,114,111,111,109,32,112,101,114,115,111,110,32,103,114,111,117,112,32]
def reservedL:List Bs:=[[104,97,114,100],[115,111,102,116],[101,97,99,104],[97,108,108],[115,111,109,101],[108,101,97,115,116],[109,111,115,116],[116,114,117,101],[102,97,108,115,101],[97,116],[105,110],[116,101,97,99,104,101,115],[97,116,116,101,110,100,115],[97,119,97,121],[115,104,117,116],[100,97,121],[104,111,117,114],[104,111,117,115,101],[115,101,97,116,115],[115,105,122,101],[108,101,115,115,111,110],[115,108,111,116],[114,111,111,109],[112,101,114,115,111,110],[103,114,111,117,112]]

def schNamed (s:Bs):Bool:=match s with
 | []=>false
 | c :: r=>decide ((c :: r).length<=64)&&decide (97<=c.toNat)&&(c :: r).all innerB&&!(Lib.contains reservedS (32 :: ((c :: r)++[32])))
def frmNamed (s:Bs):Bool:=match s with
 | []=>false
 | c :: r=>decide ((c :: r).length<=64)&&!(reservedL.contains (c :: r))&&(c :: r).all innerB&&decide (97<=c.toNat)

def schNames (s:Schl) (sort:Int):List Bs :=
 if sort=1 then s.lessons.map Lsn.name else if sort=2 then s.slots.map Slt.name else if sort=3 then s.rooms.map Rom.name else if sort=4 then s.people.map Psn.name else if sort=5 then s.groups.map Grp.name
 else if sort=6 then (List.range 7).map (fun i=>[100,97,121,UInt8.ofNat (48+i)]) else if sort=7 then (List.range 8).map (fun i=>[104,111,117,115,101,UInt8.ofNat (48+i)]) else []
def schCount (s:Schl) (sort:Int):Nat:=(schNames s sort).length
theorem schCount_eq (s:Schl) (sort:Int):schCount s sort=if sort=1 then s.lessons.length else if sort=2 then s.slots.length else if sort=3 then s.rooms.length else if sort=4 then s.people.length else if sort=5 then s.groups.length else if sort=6 then 7 else if sort=7 then 8 else 0:=by
 unfold schCount schNames
 repeat' split
 all_goals simp

def placesGo (n:Int):List Int->Int->Bool
 | [],_=>true
 | x :: r,last=>if x<=last∨n<=x then false else placesGo n r x
def placesB (l:List Int) (n:Int):Bool:=placesGo n l (-1)
def withinB (n most:Int):Bool:=decide (0<=n)&&decide (n<=most)
def goNames:List Bs->List Bs->Bool
 | _,[]=>true
 | met,x :: r=>!(met.contains x)&&schNamed x&&goNames (met++[x]) r
def goTimes:List (Int×Int)->List Slt->Bool
 | _,[]=>true
 | met,x :: r=>!(met.contains (x.day,x.hour))&&withinB x.day 6&&withinB x.hour 11&&goTimes (met++[(x.day,x.hour)]) r
def badRoom (slots:Int) (x:Rom):Bool:=!(withinB x.house 7)||!(withinB x.seats 1000)||!(placesB x.shut slots)
def badPerson (slots:Int) (x:Psn):Bool:=!(placesB x.away slots)
def badGroup (x:Grp):Bool:=!(withinB x.size 1000)
def badLesson (people groups:Int) (x:Lsn):Bool:=!(placesB x.who people)||!(placesB x.groups groups)
def schCheck (s:Schl):Int :=
 if !(goNames [] (schNames s 1)&&goNames [] (schNames s 2)&&goNames [] (schNames s 3)&&goNames [] (schNames s 4)&&goNames [] (schNames s 5)) then 1
 else if !(goTimes [] s.slots) then 1
 else if s.slots.length=0∨s.rooms.length=0 then 1
 else if s.rooms.any (badRoom s.slots.length)||s.people.any (badPerson s.slots.length)||s.groups.any badGroup||s.lessons.any (badLesson s.people.length s.groups.length) then 1
 else if 50<s.slots.length∨32<s.rooms.length∨64<s.people.length∨64<s.groups.length∨64<s.lessons.length then 2 else 0

def lostB (s:Schl) (p:Plc):Bool:=!(decide (0<=p.slot)&&decide (p.slot<s.slots.length))||!(decide (0<=p.room)&&decide (p.room<s.rooms.length))
def weekCheck (s:Schl) (w:List Plc):Int :=
 if schCheck s ≠ 0 then schCheck s else if w.length ≠ s.lessons.length∨w.any (lostB s)=true then 40 else 0

def arityF (k:Int):Option Nat :=
 if k<1∨17<k then none else if k<=9 then some 0 else if k=10 then some 1 else if k<=13 then some 2 else some 1
def atomK (k:Int):Bool:=decide (3<=k)&&decide (k<=9)
def quantK (k:Int):Bool:=decide (14<=k)&&decide (k<=17)
def countK (k:Int):Bool:=decide (k=16)||decide (k=17)
def numberB (n:Int):Bool:=decide (0<=n)&&decide (n<=1099511627776)
def cmpL:List Bs:=[[61],[33,61],[60],[60,61],[62],[62,61]]
def termedF (t:Trm):Bool:=if t.kind=1 then t.name.isEmpty&&numberB t.n else decide (2<=t.kind)&&decide (t.kind<=7)&&frmNamed t.name&&decide (t.n=0)
def bndOk (b:Bnd):Bool:=frmNamed b.name&&decide (1<=b.sort)&&decide (b.sort<=7)
def partsOk (f:Frm):Bool :=
 (arityF f.kind==some f.l.length)&&(f.terms.isEmpty||atomK f.kind)&&(f.binds.isEmpty||quantK f.kind)&&(decide (f.n=0)||countK f.kind)&&(f.name.isEmpty||decide (f.kind=9))
def formedF (f:Frm):Bool :=
 partsOk f &&
  (if f.kind=9/\cmpL.contains f.name=false then false
   else if atomK f.kind then decide (f.terms.length=2)&&f.terms.all (fun t=>termedF t&&(decide (f.kind=9)||decide (t.kind=2)))
   else if quantK f.kind then decide (0<f.binds.length)&&decide (f.binds.length<=6)&&f.binds.all bndOk&&numberB f.n
   else true)
theorem partsOk_mk (kind:Int) (name:Bs) (n:Int) (terms:List Trm) (binds:List Bnd) (l:List Frm):partsOk (.mk kind name n terms binds l) =
  ((arityF kind==some l.length)&&(terms.isEmpty||atomK kind)&&(binds.isEmpty||quantK kind)&&(decide (n=0)||countK kind)&&(name.isEmpty||decide (kind=9))):=rfl
theorem formedF_mk (kind:Int) (name:Bs) (n:Int) (terms:List Trm) (binds:List Bnd) (l:List Frm):formedF (.mk kind name n terms binds l) =
  (partsOk (.mk kind name n terms binds l) &&
  (if kind=9/\cmpL.contains name=false then false
   else if atomK kind then decide (terms.length=2)&&terms.all (fun t=>termedF t&&(decide (kind=9)||decide (t.kind=2)))
   else if quantK kind then decide (0<binds.length)&&decide (binds.length<=6)&&binds.all bndOk&&numberB n
   else true)):=rfl
mutual
/-- The nodes of a formula, in preorder. -/
def nodesF:Frm->List Frm
 | .mk kind name n terms binds l=>.mk kind name n terms binds l :: nodesL l
def nodesL:List Frm->List Frm
 | []=>[]
 | f :: r=>nodesF f++nodesL r
end
def frmCheck (f:Frm):Int:=if (nodesF f).all formedF=false then 1 else if 256<f.size∨24<f.depth then 2 else 0

def findB (a:List Bnd) (name:Bs):Option Nat:=a.findIdx? (fun b=>b.name==name)
def mayA (a:List Bnd):Bool:=(List.range a.length).all (fun i=>match a[i]? with | some b=>bndOk b&&(findB a b.name==some i) | none=>true)
def takesF (k:Int):Int×Int:=if k=3 then (2,6) else if k=4 then (2,8) else if k=5 then (3,7) else if k=6 then (3,8) else if k=7 then (1,8) else (0,0)
def asksF (k:Int):Int×Int:=if k=3 then (1,2) else if k=4 then (1,3) else if k=5 then (4,1) else if k=6 then (5,1) else if k=7 then (4,2) else if k=8 then (3,2) else (0,0)
def sortF (a:List Bnd) (t:Trm):Int×Int :=
 if t.kind=1 then (8,0) else
  match findB a t.name with
  | none=>(0,81)
  | some n=>match a[n]? with
   | none=>(0,81)
   | some b=>if t.kind=2 then (b.sort,0) else if (takesF t.kind).1 ≠ b.sort then (0,80) else ((takesF t.kind).2,0)
def cmpWalk (a:List Bnd) (name:Bs) (t u:Trm):Int :=
 if (sortF a t).2 ≠ 0 then (sortF a t).2 else if (sortF a u).2 ≠ 0 then (sortF a u).2
 else if (sortF a t).1 ≠ (sortF a u).1∨¬ ((sortF a t).1=8∨(sortF a t).1=2∨(sortF a t).1=6∨name=[61]∨name=[33,61]) then 80 else 0
def atomWalk (a:List Bnd) (kind:Int) (t u:Trm):Int :=
 if (sortF a t).2 ≠ 0 then (sortF a t).2 else if (sortF a t).1 ≠ (asksF kind).1 then 80
 else if (sortF a u).2 ≠ 0 then (sortF a u).2 else if (sortF a u).1 ≠ (asksF kind).2 then 80 else 0
def bindAll:List Bnd->List Bnd->Option (List Bnd)
 | a,[]=>some a
 | a,b :: r=>if (findB a b.name).isSome then none else bindAll (a++[b]) r
mutual
/-- around.walk -/
def walkF:List Bnd->Frm->Int
 | a,.mk kind name _ terms binds l =>
  match terms with
  | t :: u :: _=>if kind=9 then cmpWalk a name t u else atomWalk a kind t u
  | _=>match bindAll a binds with
   | none=>82
   | some b=>walkL b l
def walkL:List Bnd->List Frm->Int
 | _,[]=>0
 | a,f :: r=>if walkF a f ≠ 0 then walkF a f else walkL a r
end
theorem walkF_nil (a:List Bnd) (kind:Int) (name:Bs) (n:Int) (binds:List Bnd) (l:List Frm):walkF a (.mk kind name n [] binds l)=(match bindAll a binds with | none=>82 | some b=>walkL b l):=by
 rw [walkF];intro t u r h;cases h
theorem walkF_two (a:List Bnd) (kind:Int) (name:Bs) (n:Int) (t u:Trm) (r:List Trm) (binds:List Bnd) (l:List Frm):walkF a (.mk kind name n (t :: u :: r) binds l)=if kind=9 then cmpWalk a name t u else atomWalk a kind t u:=by
 rw [walkF]
def typRule (r:Rul):Int :=
 if bndOk ⟨r.name,1⟩=false∨r.weight<(if r.hard then 0 else 1)∨(if r.hard then 0 else 1000)<r.weight∨6<r.each.length∨r.each.all bndOk=false then 1
 else if frmCheck r.body ≠ 0 then frmCheck r.body else if mayA r.each=false then 82 else walkF r.each r.body
def rulesGo:List Bs->List Rul->Nat->Int×Int
 | _,[],_=>(0,0)
 | met,r :: l,at_=>if typRule r ≠ 0 then (at_,typRule r) else if met.contains r.name then (at_,82) else rulesGo (met++[r.name]) l (at_+1)
def typRules (l:List Rul):Int×Int:=rulesGo [] l 0

def evBinds (env:List Ev):List Bnd:=env.map (fun x=>⟨x.name,x.sort⟩)
def evOdd (s:Schl) (x:Ev):Bool:=decide (x.at_<0)||decide ((schCount s x.sort:Int)<=x.at_)
def evMay (s:Schl) (env:List Ev):Bool:=mayA (evBinds env)&&!(env.any (evOdd s))
def sizesF (s:Schl) (l:List Bnd):List Nat:=l.map (fun b=>schCount s b.sort)
def timesF (a b:Nat):Nat:=min (a*b) 1048577
def manyF (s:Schl) (l:List Bnd):Nat:=(sizesF s l).foldl timesF 1
def tuplesF:List Nat->List (List Nat)
 | []=>[[]]
 | k :: r=>(List.range k).flatMap (fun i=>(tuplesF r).map (i :: ·))
mutual
def broadF (s:Schl):Frm->Nat
 | .mk _ _ _ _ binds l=>min (timesF (broadL s l 0) (manyF s binds)+1) 1048577
def broadL (s:Schl):List Frm->Nat->Nat
 | [],n=>n
 | f :: r,n=>broadL s r (min (n+broadF s f) 1048577)
end
def withF (env:List Ev) (l:List Bnd) (t:List Nat):List Ev:=env++(l.zip t).map (fun p=>⟨p.1.name,p.1.sort,(p.2:Int)⟩)
def evOf (env:List Ev) (name:Bs):Ev:=(env.find? (fun x=>x.name==name)).getD ⟨[],0,0⟩
def sltAt (s:Schl) (i:Int):Slt:=s.slots[i.toNat]?.getD ⟨[],0,0⟩
def romAt (s:Schl) (i:Int):Rom:=s.rooms[i.toNat]?.getD ⟨[],0,0,[]⟩
def schSize (s:Schl) (lesson:Int):Int :=
 if lesson<0∨(s.lessons.length:Int)<=lesson then 0
 else ((s.lessons[lesson.toNat]?.getD ⟨[],[],[]⟩).groups.map (fun (g:Int)=>if 0<=g/\g<(s.groups.length:Int) then (s.groups[g.toNat]?.getD ⟨[],0⟩).size else (0:Int))).sum
def valueF (s:Schl) (env:List Ev) (t:Trm):Int :=
 if t.kind=1 then t.n
 else if t.kind=3 then (sltAt s (evOf env t.name).at_).day
 else if t.kind=4 then (sltAt s (evOf env t.name).at_).hour
 else if t.kind=5 then (romAt s (evOf env t.name).at_).house
 else if t.kind=6 then (romAt s (evOf env t.name).at_).seats
 else if t.kind=7 then schSize s (evOf env t.name).at_
 else if (evOf env t.name).sort=2 then (sltAt s (evOf env t.name).at_).day*12+(sltAt s (evOf env t.name).at_).hour
 else (evOf env t.name).at_
def quantHolds (kind n:Int) (yes all:Nat):Bool :=
 if kind=14 then yes==all else if kind=15 then decide (0<yes) else if kind=16 then decide (n<=yes) else decide ((yes:Int)<=n)
end Go.Chalk
/- The plain law of the connectives: what Holds answers of a negation, conjunction, disjunction, implication. No program is named here. -/
namespace Go.Chalk
structure HoldsOk (s:Schl) (w:List Plc) (env:List Ev) (f:Frm):Prop where
 week:weekCheck s w=0
 may:evMay s env=true
 formed:(nodesF f).all formedF=true
 size:f.size<=256
 depth:f.depth<=24
 walk:walkF (evBinds env) f=0
 broad:broadF s f<=1048576
theorem frmCheck_zero {f:Frm}:frmCheck f=0 ↔ (nodesF f).all formedF=true/\f.size<=256/\f.depth<=24:=by
 unfold frmCheck
 cases h:(nodesF f).all formedF
 ·simp
 ·simp only [Bool.true_eq_false,if_false,true_and]
  by_cases h2:256<f.size∨24<f.depth
  ·rw [if_pos h2];constructor
   ·intro h;cases h
   ·rintro ⟨_,_⟩;omega
  ·rw [if_neg h2];constructor
   ·intro _;omega
   ·intro _;rfl
end Go.Chalk
/- The plain law of the quantifiers over one variable. No program is named here. -/
namespace Go.Chalk
theorem findB_none {a:List Bnd} {n:Bs}:findB a n=none ↔ n ∉ a.map Bnd.name:=by
 unfold findB
 rw [List.findIdx?_eq_none_iff]
 simp only [List.mem_map,not_exists,not_and,beq_eq_false_iff_ne,ne_eq]
 try exact Iff.rfl
theorem findB_some {a:List Bnd} {n:Bs} {i:Nat}:findB a n=some i ↔ ∃ h:i<a.length,a[i].name=n/\∀ j (hj:j<i),(a[j]'(by omega)).name ≠ n:=by
 unfold findB
 rw [List.findIdx?_eq_some_iff_getElem]
 constructor
 ·rintro ⟨h,h1,h2⟩;exact ⟨h,by simpa using h1,fun j hj=>by simpa using h2 j hj⟩
 ·rintro ⟨h,h1,h2⟩;exact ⟨h,by simpa using h1,fun j hj=>by simpa using h2 j hj⟩
theorem mayA_iff {a:List Bnd}:mayA a=true ↔ (∀ b∈a,bndOk b=true)/\(a.map Bnd.name).Nodup:=by
 unfold mayA
 rw [List.all_eq_true]
 simp only [List.mem_range]
 constructor
 ·intro h
  have key:∀ i (hi:i<a.length),bndOk a[i]=true/\findB a a[i].name=some i:=fun i hi=>by
   have:=h i hi
   rw [List.getElem?_eq_getElem hi] at this
   simpa using this
  refine ⟨fun b hb=>?_,?_⟩
  ·obtain ⟨i,hi,rfl⟩:=List.mem_iff_getElem.1 hb;exact (key i hi).1
  ·rw [List.nodup_iff_pairwise_ne,List.pairwise_iff_getElem]
   intro i j hi hj hij e
   simp at hi hj
   obtain ⟨_,_,h3⟩:=findB_some.1 (key j hj).2
   exact h3 i hij (by simpa using e)
 ·rintro ⟨h1,h2⟩ i hi
  rw [List.getElem?_eq_getElem hi]
  simp only [Bool.and_eq_true,beq_iff_eq]
  refine ⟨h1 _ (List.getElem_mem hi),findB_some.2 ⟨hi,rfl,fun j hj e=>?_⟩⟩
  rw [List.nodup_iff_pairwise_ne,List.pairwise_iff_getElem] at h2
  exact h2 j i (by simp;omega) (by simpa using hi) hj (by simpa using e)
theorem mayA_snoc {a:List Bnd} {b:Bnd}:mayA (a++[b])=true ↔ mayA a=true/\bndOk b=true/\findB a b.name=none:=by
 rw [mayA_iff,mayA_iff,findB_none]
 simp only [List.mem_append,List.mem_singleton,List.map_append,List.map_cons,List.map_nil,List.nodup_append]
 constructor
 ·rintro ⟨h1,h2,_,h3⟩
  exact ⟨⟨fun c hc=>h1 c (.inl hc),h2⟩,h1 b (.inr rfl),fun hb=>h3 _ hb _ (by simp) rfl⟩
 ·rintro ⟨⟨h1,h2⟩,h3,h4⟩
  refine ⟨fun c hc=>?_,h2,by simp,fun x hx y hy e=>?_⟩
  ·rcases hc with hc | rfl
   ·exact h1 c hc
   ·exact h3
  ·subst hy;subst e;exact h4 hx
theorem evBinds_snoc (env:List Ev) (x:Ev):evBinds (env++[x])=evBinds env++[⟨x.name,x.sort⟩]:=by simp [evBinds]
theorem evMay_snoc {s:Schl} {env:List Ev} {x:Ev} (h:evMay s env=true) (h1:bndOk ⟨x.name,x.sort⟩=true) (h2:findB (evBinds env) x.name=none) (h3:0<=x.at_) (h4:x.at_<schCount s x.sort):evMay s (env++[x])=true:=by
 unfold evMay at h ⊢
 rw [Bool.and_eq_true] at h ⊢
 rw [evBinds_snoc]
 refine ⟨mayA_snoc.2 ⟨h.1,h1,h2⟩,?_⟩
 rw [List.any_append]
 have:evOdd s x=false:=by unfold evOdd;simp;omega
 have h5:=h.2
 rw [Bool.not_eq_true'] at h5
 simp [h5,this]

def quFrm (kind n:Int) (b:Bnd) (f:Frm):Frm:=.mk kind [] n [] [b] [f]
theorem quFrm_inv {kind n:Int} (hk:kind=16) {b:Bnd} {f:Frm} (h:(nodesF (quFrm kind n b f)).all formedF=true):numberB n=true/\bndOk b=true/\(nodesF f).all formedF=true:=by
 subst hk
 rw [quFrm,nodesF,nodesL,nodesL,List.append_nil,List.all_cons,Bool.and_eq_true] at h
 refine ⟨?_,?_,h.2⟩
 ·have:=h.1
  unfold formedF at this
  simp [Frm.kind,atomK,quantK,Frm.n,Frm.binds] at this
  exact this.2.2
 ·have:=h.1
  unfold formedF at this
  simp [Frm.kind,atomK,quantK,Frm.n,Frm.binds] at this
  exact this.2.1
theorem quFrm_walk {kind n:Int} {a:List Bnd} {b:Bnd} {f:Frm}:walkF a (quFrm kind n b f)=0 ↔ findB a b.name=none/\walkF (a++[b]) f=0:=by
 rw [quFrm,walkF_nil]
 simp only [bindAll]
 cases hf:findB a b.name with
 | none =>
  simp only [walkL]
  by_cases h0:walkF (a++[b]) f=0 <;> simp [h0]
 | some i=>simp
mutual
theorem broadF_le (s:Schl):∀ f:Frm,broadF s f<=1048577
 | .mk _ _ _ _ _ _=>by rw [broadF];omega
end
theorem HoldsOk.part {s:Schl} {w:List Plc} {env:List Ev} {n:Int} {b:Bnd} {f:Frm} (h:HoldsOk s w env (quFrm 16 n b f)) (i:Nat) (hi:i<schCount s b.sort):HoldsOk s w (env++[⟨b.name,b.sort,(i:Int)⟩]) f:=by
 obtain ⟨g1,g2,g3⟩:=quFrm_inv rfl h.formed
 obtain ⟨g4,g5⟩:=quFrm_walk.1 h.walk
 have hs:=h.size
 have hd:=h.depth
 have hb:=h.broad
 simp only [quFrm,Frm.size,Frm.depth,fsizes,fdepths] at hs hd
 simp only [quFrm,broadF,broadL,manyF,sizesF,List.map_cons,List.map_nil,List.foldl_cons,List.foldl_nil,timesF] at hb
 have hl:=broadF_le s f
 refine ⟨h.week,evMay_snoc h.may g2 g4 (by simp) (by simpa using hi),g3,by omega,by omega,by rw [evBinds_snoc];exact g5,?_⟩
 by_cases hlt:broadF s f<=1048576
 ·exact hlt
 ·exfalso
  have e:broadF s f=1048577:=by omega
  rw [e] at hb
  have h1:min (0+1048577) 1048577=1048577:=by omega
  rw [h1,Nat.one_mul] at hb
  have h2:1<=min (schCount s b.sort) 1048577:=by omega
  have h3:1048577<=1048577*min (schCount s b.sort) 1048577:=Nat.le_mul_of_pos_right _ (by omega)
  omega
end Go.Chalk
/- What a formula says hangs on what its environment gives for each name, not on the order of its entries; a formula without 'at' and 'in' says the same of every week. No program is named here. -/
namespace Go.Chalk
def lookB (a:List Bnd) (n:Bs):Option Int:=(a.find? (fun b=>b.name==n)).map Bnd.sort
def SameB (a a':List Bnd):Prop:=∀ n,lookB a n=lookB a' n
theorem lookB_append (a c:List Bnd) (n:Bs):lookB (a++c) n=(lookB a n).or (lookB c n):=by
 unfold lookB;rw [List.find?_append];cases a.find? (fun b=>b.name==n) <;> simp
theorem SameB.append {a a':List Bnd} (h:SameB a a') (c:List Bnd):SameB (a++c) (a'++c):=fun n=>by rw [lookB_append,lookB_append,h n]
theorem findB_look {a:List Bnd} {n:Bs}:(findB a n).isSome=(lookB a n).isSome:=by
 unfold findB lookB
 rw [Option.isSome_map]
 induction a with
 | nil=>rfl
 | cons b r ih =>
  rw [List.findIdx?_cons,List.find?_cons]
  cases h:b.name==n
  ·simp [ih]
  ·simp
theorem findB_get {a:List Bnd} {n:Bs} {i:Nat} (h:findB a n=some i):∃ hi:i<a.length,lookB a n=some a[i].sort:=by
 obtain ⟨hi,h1,h2⟩:=findB_some.1 h
 refine ⟨hi,?_⟩
 unfold lookB
 have:a.find? (fun b=>b.name==n)=some a[i]:=by
  rw [List.find?_eq_some_iff_getElem]
  exact ⟨by simpa using h1,i,hi,rfl,fun j hj=>by simpa using h2 j hj⟩
 rw [this];rfl
def sortL (o:Option Int) (k:Int):Int×Int:=match o with | none=>(0,81) | some s=>if k=2 then (s,0) else if (takesF k).1 ≠ s then (0,80) else ((takesF k).2,0)
theorem sortF_look (a:List Bnd) (t:Trm):sortF a t=if t.kind=1 then (8,0) else sortL (lookB a t.name) t.kind:=by
 unfold sortF
 split
 ·rfl
 ·cases h:findB a t.name with
  | none =>
   have h1:=findB_look (a:=a) (n:=t.name)
   rw [h] at h1
   cases h2:lookB a t.name with
   | none=>rfl
   | some s=>rw [h2] at h1;cases h1
  | some i =>
   obtain ⟨hi,h2⟩:=findB_get h
   simp only [h2,List.getElem?_eq_getElem hi,sortL]
theorem SameB.sort {a a':List Bnd} (h:SameB a a') (t:Trm):sortF a t=sortF a' t:=by rw [sortF_look,sortF_look,h]
theorem SameB.bind {a a':List Bnd} (h:SameB a a'):∀ (l:List Bnd),(bindAll a l=none/\bindAll a' l=none)∨(bindAll a l=some (a++l)/\bindAll a' l=some (a'++l))
 | []=>.inr (by simp [bindAll])
 | b :: r=>by
  have e:(findB a b.name).isSome=(findB a' b.name).isSome:=by rw [findB_look,findB_look,h]
  simp only [bindAll]
  by_cases hs:(findB a b.name).isSome=true
  ·rw [if_pos hs,if_pos (by rw [<- e];exact hs)];exact .inl ⟨rfl,rfl⟩
  ·rw [if_neg hs,if_neg (by rw [<- e];exact hs)]
   have:=SameB.bind (h.append [b]) r
   simpa using this
def SameE (e e':List Ev):Prop:=∀ n:Bs,e.find? (fun x=>x.name==n)=e'.find? (fun x=>x.name==n)
theorem SameE.append {e e':List Ev} (h:SameE e e') (c:List Ev):SameE (e++c) (e'++c):=fun n=>by rw [List.find?_append,List.find?_append,h n]
theorem SameE.of {e e':List Ev} (h:SameE e e') (n:Bs):evOf e n=evOf e' n:=by unfold evOf;rw [h n]
theorem SameE.value {e e':List Ev} (h:SameE e e') (s:Schl) (t:Trm):valueF s e t=valueF s e' t:=by unfold valueF;rw [h.of]
end Go.Chalk
/- The plain law of nested quantifiers. No program is named here. -/
namespace Go.Chalk
theorem quant_any {α:Type} (n:Int) (l:List α) (p:α->Bool):quantHolds 15 n (l.countP p) l.length=l.any p:=by
 unfold quantHolds
 rw [if_neg (by decide),if_pos rfl,Bool.eq_iff_iff,decide_eq_true_eq,List.countP_pos_iff,List.any_eq_true]
end Go.Chalk
/- The plain law of negation normal forms. No program is named here. -/
namespace Go.Chalk
def negS (name:Bs):Bs:=if name=[61] then [33,61] else if name=[33,61] then [61] else if name=[60] then [62,61] else if name=[62,61] then [60] else if name=[60,61] then [62] else if name=[62] then [60,61] else []
theorem tuples_length:∀ l:List Nat,(tuplesF l).length=l.prod
 | []=>rfl
 | k :: r=>by
  rw [tuplesF,List.prod_cons,<- tuples_length r]
  generalize tuplesF r=t
  suffices h:∀ m:List Nat,(m.flatMap (fun i=>t.map (i :: ·))).length=m.length*t.length by simpa using h (List.range k)
  intro m
  induction m with
  | nil=>simp
  | cons x m ih=>rw [List.flatMap_cons,List.length_append,ih,List.length_map,List.length_cons,Nat.add_mul];omega
end Go.Chalk
/- The plain law of Judge over two lists of rules. No program is named here. -/
namespace Go.Chalk
theorem fold_times_le (B:Nat):∀ (l:List Nat) (n:Nat),n<=1048577->l.foldl timesF n<=1048577
 | [],n,h=>h
 | k :: r,n,h=>by rw [List.foldl_cons];exact fold_times_le B r _ (by unfold timesF;omega)
theorem manyF_le (s:Schl) (l:List Bnd):manyF s l<=1048577:=fold_times_le 0 _ _ (by omega)
theorem fold_times:∀ (l:List Nat) (n:Nat),l.foldl timesF n<=1048576->l.foldl timesF n=n*l.prod∨(l.prod=0/\l.foldl timesF n=0)
 | [],n,_=>by simp
 | k :: r,n,h=>by
  rw [List.foldl_cons] at h ⊢
  rw [List.prod_cons]
  rcases fold_times r _ h with e | ⟨e1,e2⟩
  ·by_cases hm:n*k<=1048577
   ·left;rw [e];unfold timesF;rw [Nat.min_eq_left hm,Nat.mul_assoc]
   ·have ht:timesF n k=1048577:=by unfold timesF;omega
    by_cases hp:r.prod=0
    ·right;rw [hp];exact ⟨by simp,by rw [e,hp];simp⟩
    ·exfalso
     rw [e,ht] at h
     have:1048577<=1048577*r.prod:=Nat.le_mul_of_pos_right _ (by omega)
     omega
  ·right;exact ⟨by rw [e1];simp,e2⟩
theorem manyF_tuples {s:Schl} {l:List Bnd} (h:manyF s l<=1048576):(tuplesF (sizesF s l)).length=manyF s l:=by
 rw [tuples_length]
 unfold manyF at h ⊢
 rcases fold_times _ _ h with e | ⟨e1,e2⟩
 ·rw [e];omega
 ·rw [e1,e2]
structure RuleOk (r:Rul):Prop where
 formed:(nodesF r.body).all formedF=true
 size:r.body.size<=256
 depth:r.body.depth<=24
 may:mayA r.each=true
 walk:walkF r.each r.body=0
 each:r.each.length<=6
theorem typRule_ok {r:Rul} (h:typRule r=0):RuleOk r:=by
 unfold typRule at h
 generalize (if r.hard=true then (0:Int) else 1)=lo at h
 generalize (if r.hard=true then (0:Int) else 1000)=hi at h
 by_cases h1:bndOk ⟨r.name,1⟩=false∨r.weight<lo∨hi<r.weight∨6<r.each.length∨r.each.all bndOk=false
 ·rw [if_pos h1] at h;cases h
 rw [if_neg h1] at h
 by_cases h2:frmCheck r.body ≠ 0
 ·rw [if_pos h2] at h;exact absurd h h2
 rw [if_neg h2] at h
 by_cases h3:mayA r.each=false
 ·rw [if_pos h3] at h;cases h
 rw [if_neg h3] at h
 obtain ⟨g1,g2,g3⟩:=frmCheck_zero.1 (Decidable.byContradiction h2)
 simp only [not_or] at h1
 exact ⟨g1,g2,g3,by simpa using h3,h,by omega⟩
end Go.Chalk
/- The tuples in lexicographic order, by the step from one to the next. No program is named here. -/
namespace Go.Chalk
end Go.Chalk
/- What can be evaluated: the parts of a formula. No program is named here. -/
namespace Go.Chalk
theorem walkL_all:∀ (l:List Frm) (a:List Bnd),walkL a l=0->∀ g∈l,walkF a g=0
 | f :: r,a,h,g,hg=>by
  rw [walkL] at h
  by_cases h1:walkF a f ≠ 0
  ·rw [if_pos h1] at h;exact absurd h h1
  ·rw [if_neg h1] at h
   rcases List.mem_cons.1 hg with rfl | hg
   ·exact Decidable.byContradiction h1
   ·exact walkL_all r a h g hg
theorem nodesL_all:∀ (l:List Frm),(nodesL l).all formedF=true->∀ g∈l,(nodesF g).all formedF=true
 | f :: r,h,g,hg=>by
  rw [nodesL,List.all_append,Bool.and_eq_true] at h
  rcases List.mem_cons.1 hg with rfl | hg
  ·exact h.1
  ·exact nodesL_all r h.2 g hg
theorem fsizes_mem:∀ (l:List Frm) (g:Frm),g∈l->g.size<=fsizes l/\g.depth<=fdepths l
 | f :: r,g,hg=>by
  rw [fsizes,fdepths]
  rcases List.mem_cons.1 hg with rfl | hg
  ·omega
  ·have:=fsizes_mem r g hg;omega
theorem HoldsOk.inv {s:Schl} {w:List Plc} {env:List Ev} {kind:Int} {name:Bs} {n:Int} {binds:List Bnd} {fl:List Frm} (h:HoldsOk s w env (.mk kind name n [] binds fl)) :
  formedF (.mk kind name n [] binds fl)=true/\(nodesL fl).all formedF=true/\∃ bs,bindAll (evBinds env) binds=some bs/\walkL bs fl=0:=by
 have h1:=h.formed
 rw [nodesF,List.all_cons,Bool.and_eq_true] at h1
 refine ⟨h1.1,h1.2,?_⟩
 have h2:=h.walk
 rw [walkF_nil] at h2
 cases hb:bindAll (evBinds env) binds with
 | none=>rw [hb] at h2;cases h2
 | some bs=>rw [hb] at h2;exact ⟨bs,rfl,h2⟩
theorem with_cons (env:List Ev) (b:Bnd) (r:List Bnd) (i:Nat) (u:List Nat):withF env (b :: r) (i :: u)=withF (env++[⟨b.name,b.sort,(i:Int)⟩]) r u:=by
 unfold withF;simp
theorem may_with {s:Schl}:∀ (binds:List Bnd) (env:List Ev) (t:List Nat) (bs:List Bnd),evMay s env=true->binds.all bndOk=true->bindAll (evBinds env) binds=some bs->t∈tuplesF (sizesF s binds)->evMay s (withF env binds t)=true/\evBinds (withF env binds t)=bs
 | [],env,t,bs,h,_,hb,_=>by
  rw [bindAll] at hb;cases hb
  have e:withF env [] t=env:=by unfold withF;simp
  rw [e];exact ⟨h,rfl⟩
 | b :: r,env,t,bs,h,hk,hb,ht=>by
  rw [List.all_cons,Bool.and_eq_true] at hk
  rw [bindAll] at hb
  split at hb
  ·cases hb
  ·rename_i hf
   rw [sizesF,List.map_cons,tuplesF,List.mem_flatMap] at ht
   obtain ⟨i,hi,hu⟩:=ht
   obtain ⟨u,hu',rfl⟩:=List.mem_map.1 hu
   rw [with_cons]
   have hm:evMay s (env++[⟨b.name,b.sort,(i:Int)⟩])=true:=evMay_snoc h hk.1 (by simpa using hf) (by simp) (by have:=List.mem_range.1 hi;simpa using this)
   exact may_with r _ u bs hm hk.2 (by rw [evBinds_snoc];exact hb) hu'
theorem HoldsOk.inst {s:Schl} {w:List Plc} {env:List Ev} {kind:Int} {name:Bs} {n:Int} {binds:List Bnd} {g:Frm} (h:HoldsOk s w env (.mk kind name n [] binds [g])) (hk:binds.all bndOk=true) :
  manyF s binds<=1048576/\∀ t∈tuplesF (sizesF s binds),HoldsOk s w (withF env binds t) g:=by
 obtain ⟨h1,h2,bs,h3,h4⟩:=h.inv
 have hs:=h.size
 have hd:=h.depth
 have hb:=h.broad
 rw [Frm.size] at hs
 rw [Frm.depth] at hd
 have hm:=fsizes_mem [g] g (by simp)
 rw [broadF,broadL,broadL] at hb
 have hl:=broadF_le s g
 have hp:1<=broadF s g:=by cases g;rw [broadF];omega
 have hml:=manyF_le s binds
 unfold timesF at hb
 have e0:min (0+broadF s g) 1048577=broadF s g:=by omega
 rw [e0] at hb
 have hmany:manyF s binds<=1048576:=by
  have:manyF s binds<=broadF s g*manyF s binds:=Nat.le_mul_of_pos_left _ (by omega)
  omega
 refine ⟨hmany,fun t ht=>?_⟩
 have hlen:=manyF_tuples hmany
 have hpos:0<(tuplesF (sizesF s binds)).length:=List.length_pos_of_mem ht
 have hbr:broadF s g<=1048576:=by
  have:broadF s g<=broadF s g*manyF s binds:=Nat.le_mul_of_pos_right _ (by omega)
  omega
 obtain ⟨m1,m2⟩:=may_with binds env t bs h.may hk h3 ht
 exact ⟨h.week,m1,nodesL_all _ h2 g (by simp),by omega,by omega,by rw [m2];exact walkL_all _ _ h4 g (by simp),hbr⟩
end Go.Chalk
/- What ground's functions compute, and the plain law: a ground formula's value under a week's assignment is the formula's value in the week. No program is named here. -/
namespace Go.Chalk
end Go.Chalk
