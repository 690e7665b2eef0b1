/- Joined texts: Spec, LawConn, LawQuant, LawEnv, LawNest, LawNnf, LawAdd. -/
import Derived.Test.YtpmalchlecnjbaaGreatDoorU04
import Derived.Lib.IndexMore
set_option linter.unusedVariables false
set_option linter.unusedSimpArgs false
/- The layers school, week, formula, types and eval as functions of Lean data. No program is named here. -/
namespace Go.Chalk
def reservedS:Bs:=[32,104,97,114,100,32,115,111,102,116,32,101,97,99,104,32,97,108,108,32,115,111,109,101,32,108,101,97,115,116,32,109,111,115,116,32,116,114,117,101,32,102,97,108,115,101,32,97,116,32,105,110,32,116,101,97,99,104,101,115,32,97,116,116,101,110,100,115,32,97,119,97,121,32,115,104,117,116,32,100,97,121,32,104,111,117,114,32,104,111,117,115,101,32,115,101,97,116,115,32,115,105,122,101,32,108,101,115,115,111,110,32,115,108,111,116,32,114,111,111,109,32,112,101,114,115,111,110,32,103,114,111,117,112,32]
def reservedL:List Bs:=[[104,97,114,100],[115,111,102,116],[101,97,99,104],[97,108,108],[115,111,109,101],[108,101,97,115,116],[109,111,115,116],[116,114,117,101],[102,97,108,115,101],[97,116],[105,110],[116,101,97,99,104,101,115],[97,116,116,101,110,100,115],[97,119,97,121],[115,104,117,116],[100,97,121],[104,111,117,114],[104,111,117,115,101],[115,101,97,116,115],[115,105,122,101],[108,101,115,115,111,110],[115,108,111,116],[114,111,111,109],[112,101,114,115,111,110],[103,114,111,117,112]]

def frmNamed (s:Bs):Bool:=match s with
 | []=>false
 | c :: r=>decide ((c :: r).length<=64)&&!(reservedL.contains (c :: r))&&(c :: r).all innerB&&decide (97<=c.toNat)

def arityF (k:Int):Option Nat :=
 if k<1∨17<k then none else if k<=9 then some 0 else if k=10 then some 1 else if k<=13 then some 2 else some 1
def atomK (k:Int):Bool:=decide (3<=k)&&decide (k<=9)
def quantK (k:Int):Bool:=decide (14<=k)&&decide (k<=17)
def countK (k:Int):Bool:=decide (k=16)||decide (k=17)
def numberB (n:Int):Bool:=decide (0<=n)&&decide (n<=1099511627776)
def cmpL:List Bs:=[[61],[33,61],[60],[60,61],[62],[62,61]]
def termedF (t:Trm):Bool:=if t.kind=1 then t.name.isEmpty&&numberB t.n else decide (2<=t.kind)&&decide (t.kind<=7)&&frmNamed t.name&&decide (t.n=0)
def bndOk (b:Bnd):Bool:=frmNamed b.name&&decide (1<=b.sort)&&decide (b.sort<=7)
def partsOk (f:Frm):Bool :=
 (arityF f.kind==some f.l.length)&&(f.terms.isEmpty||atomK f.kind)&&(f.binds.isEmpty||quantK f.kind)&&(decide (f.n=0)||countK f.kind)&&(f.name.isEmpty||decide (f.kind=9))
def formedF (f:Frm):Bool :=
 partsOk f &&
  (if f.kind=9/\cmpL.contains f.name=false then false
   else if atomK f.kind then decide (f.terms.length=2)&&f.terms.all (fun t=>termedF t&&(decide (f.kind=9)||decide (t.kind=2)))
   else if quantK f.kind then decide (0<f.binds.length)&&decide (f.binds.length<=6)&&f.binds.all bndOk&&numberB f.n
   else true)
theorem partsOk_mk (kind:Int) (name:Bs) (n:Int) (terms:List Trm) (binds:List Bnd) (l:List Frm):partsOk (.mk kind name n terms binds l) =
  ((arityF kind==some l.length)&&(terms.isEmpty||atomK kind)&&(binds.isEmpty||quantK kind)&&(decide (n=0)||countK kind)&&(name.isEmpty||decide (kind=9))):=rfl
theorem formedF_mk (kind:Int) (name:Bs) (n:Int) (terms:List Trm) (binds:List Bnd) (l:List Frm):formedF (.mk kind name n terms binds l) =
  (partsOk (.mk kind name n terms binds l) &&
  (if kind=9/\cmpL.contains name=false then false
   else if atomK kind then decide (terms.length=2)&&terms.all (fun t=>termedF t&&(decide (kind=9)||decide (t.kind=2)))
   else if quantK kind then decide (0<binds.length)&&decide (binds.length<=6)&&binds.all bndOk&&numberB n
   else true)):=rfl
mutual
/-- The nodes of a formula, in preorder. -/
def nodesF:Frm->List Frm
 | .mk kind name n terms binds l=>.mk kind name n terms binds l :: nodesL l
def nodesL:List Frm->List Frm
 | []=>[]
 | f :: r=>nodesF f++nodesL r
end
def frmCheck (f:Frm):Int:=if (nodesF f).all formedF=false then 1 else if 256<f.size∨24<f.depth then 2 else 0

def findB (a:List Bnd) (name:Bs):Option Nat:=a.findIdx? (fun b=>b.name==name)
def takesF (k:Int):Int×Int:=if k=3 then (2,6) else if k=4 then (2,8) else if k=5 then (3,7) else if k=6 then (3,8) else if k=7 then (1,8) else (0,0)
def sortF (a:List Bnd) (t:Trm):Int×Int :=
 if t.kind=1 then (8,0) else
  match findB a t.name with
  | none=>(0,81)
  | some n=>match a[n]? with
   | none=>(0,81)
   | some b=>if t.kind=2 then (b.sort,0) else if (takesF t.kind).1 ≠ b.sort then (0,80) else ((takesF t.kind).2,0)
def bindAll:List Bnd->List Bnd->Option (List Bnd)
 | a,[]=>some a
 | a,b :: r=>if (findB a b.name).isSome then none else bindAll (a++[b]) r
def evOf (env:List Ev) (name:Bs):Ev:=(env.find? (fun x=>x.name==name)).getD ⟨[],0,0⟩
def sltAt (s:Schl) (i:Int):Slt:=s.slots[i.toNat]?.getD ⟨[],0,0⟩
def romAt (s:Schl) (i:Int):Rom:=s.rooms[i.toNat]?.getD ⟨[],0,0,[]⟩
def schSize (s:Schl) (lesson:Int):Int :=
 if lesson<0∨(s.lessons.length:Int)<=lesson then 0
 else ((s.lessons[lesson.toNat]?.getD ⟨[],[],[]⟩).groups.map (fun (g:Int)=>if 0<=g/\g<(s.groups.length:Int) then (s.groups[g.toNat]?.getD ⟨[],0⟩).size else (0:Int))).sum
def valueF (s:Schl) (env:List Ev) (t:Trm):Int :=
 if t.kind=1 then t.n
 else if t.kind=3 then (sltAt s (evOf env t.name).at_).day
 else if t.kind=4 then (sltAt s (evOf env t.name).at_).hour
 else if t.kind=5 then (romAt s (evOf env t.name).at_).house
 else if t.kind=6 then (romAt s (evOf env t.name).at_).seats
 else if t.kind=7 then schSize s (evOf env t.name).at_
 else if (evOf env t.name).sort=2 then (sltAt s (evOf env t.name).at_).day*12+(sltAt s (evOf env t.name).at_).hour
 else (evOf env t.name).at_
def quantHolds (kind n:Int) (yes all:Nat):Bool :=
 if kind=14 then yes==all else if kind=15 then decide (0<yes) else if kind=16 then decide (n<=yes) else decide ((yes:Int)<=n)
end Go.Chalk
/- The plain law of the connectives: what Holds answers of a negation, conjunction, disjunction, implication. No program is named here. -/
namespace Go.Chalk
end Go.Chalk
/- The plain law of the quantifiers over one variable. No program is named here. -/
namespace Go.Chalk
theorem findB_some {a:List Bnd} {n:Bs} {i:Nat}:findB a n=some i ↔ ∃ h:i<a.length,a[i].name=n/\∀ j (hj:j<i),(a[j]'(by omega)).name ≠ n:=by
 unfold findB
 rw [List.findIdx?_eq_some_iff_getElem]
 constructor
 ·rintro ⟨h,h1,h2⟩;exact ⟨h,by simpa using h1,fun j hj=>by simpa using h2 j hj⟩
 ·rintro ⟨h,h1,h2⟩;exact ⟨h,by simpa using h1,fun j hj=>by simpa using h2 j hj⟩
end Go.Chalk
/- What a formula says hangs on what its environment gives for each name, not on the order of its entries; a formula without 'at' and 'in' says the same of every week. No program is named here. -/
namespace Go.Chalk
def lookB (a:List Bnd) (n:Bs):Option Int:=(a.find? (fun b=>b.name==n)).map Bnd.sort
def SameB (a a':List Bnd):Prop:=∀ n,lookB a n=lookB a' n
theorem lookB_append (a c:List Bnd) (n:Bs):lookB (a++c) n=(lookB a n).or (lookB c n):=by
 unfold lookB;rw [List.find?_append];cases a.find? (fun b=>b.name==n) <;> simp
theorem SameB.append {a a':List Bnd} (h:SameB a a') (c:List Bnd):SameB (a++c) (a'++c):=fun n=>by rw [lookB_append,lookB_append,h n]
theorem findB_look {a:List Bnd} {n:Bs}:(findB a n).isSome=(lookB a n).isSome:=by
 unfold findB lookB
 rw [Option.isSome_map]
 induction a with
 | nil=>rfl
 | cons b r ih =>
  rw [List.findIdx?_cons,List.find?_cons]
  cases h:b.name==n
  ·simp [ih]
  ·simp
theorem findB_get {a:List Bnd} {n:Bs} {i:Nat} (h:findB a n=some i):∃ hi:i<a.length,lookB a n=some a[i].sort:=by
 obtain ⟨hi,h1,h2⟩:=findB_some.1 h
 refine ⟨hi,?_⟩
 unfold lookB
 have:a.find? (fun b=>b.name==n)=some a[i]:=by
  rw [List.find?_eq_some_iff_getElem]
  exact ⟨by simpa using h1,i,hi,rfl,fun j hj=>by simpa using h2 j hj⟩
 rw [this];rfl
def sortL (o:Option Int) (k:Int):Int×Int:=match o with | none=>(0,81) | some s=>if k=2 then (s,0) else if (takesF k).1 ≠ s then (0,80) else ((takesF k).2,0)
theorem sortF_look (a:List Bnd) (t:Trm):sortF a t=if t.kind=1 then (8,0) else sortL (lookB a t.name) t.kind:=by
 unfold sortF
 split
 ·rfl
 ·cases h:findB a t.name with
  | none =>
   have h1:=findB_look (a:=a) (n:=t.name)
   rw [h] at h1
   cases h2:lookB a t.name with
   | none=>rfl
   | some s=>rw [h2] at h1;cases h1
  | some i =>
   obtain ⟨hi,h2⟩:=findB_get h
   simp only [h2,List.getElem?_eq_getElem hi,sortL]
theorem SameB.sort {a a':List Bnd} (h:SameB a a') (t:Trm):sortF a t=sortF a' t:=by rw [sortF_look,sortF_look,h]
theorem SameB.bind {a a':List Bnd} (h:SameB a a'):∀ (l:List Bnd),(bindAll a l=none/\bindAll a' l=none)∨(bindAll a l=some (a++l)/\bindAll a' l=some (a'++l))
 | []=>.inr (by simp [bindAll])
 | b :: r=>by
  have e:(findB a b.name).isSome=(findB a' b.name).isSome:=by rw [findB_look,findB_look,h]
  simp only [bindAll]
  by_cases hs:(findB a b.name).isSome=true
  ·rw [if_pos hs,if_pos (by rw [<- e];exact hs)];exact .inl ⟨rfl,rfl⟩
  ·rw [if_neg hs,if_neg (by rw [<- e];exact hs)]
   have:=SameB.bind (h.append [b]) r
   simpa using this
def SameE (e e':List Ev):Prop:=∀ n:Bs,e.find? (fun x=>x.name==n)=e'.find? (fun x=>x.name==n)
theorem SameE.append {e e':List Ev} (h:SameE e e') (c:List Ev):SameE (e++c) (e'++c):=fun n=>by rw [List.find?_append,List.find?_append,h n]
theorem SameE.of {e e':List Ev} (h:SameE e e') (n:Bs):evOf e n=evOf e' n:=by unfold evOf;rw [h n]
theorem SameE.value {e e':List Ev} (h:SameE e e') (s:Schl) (t:Trm):valueF s e t=valueF s e' t:=by unfold valueF;rw [h.of]
end Go.Chalk
/- The plain law of nested quantifiers. No program is named here. -/
namespace Go.Chalk
theorem quant_any {α:Type} (n:Int) (l:List α) (p:α->Bool):quantHolds 15 n (l.countP p) l.length=l.any p:=by
 unfold quantHolds
 rw [if_neg (by decide),if_pos rfl,Bool.eq_iff_iff,decide_eq_true_eq,List.countP_pos_iff,List.any_eq_true]
end Go.Chalk
/- The plain law of negation normal forms. No program is named here. -/
namespace Go.Chalk
def negS (name:Bs):Bs:=if name=[61] then [33,61] else if name=[33,61] then [61] else if name=[60] then [62,61] else if name=[62,61] then [60] else if name=[60,61] then [62] else if name=[62] then [60,61] else []
end Go.Chalk
/- The plain law of Judge over two lists of rules. No program is named here. -/
namespace Go.Chalk
end Go.Chalk
