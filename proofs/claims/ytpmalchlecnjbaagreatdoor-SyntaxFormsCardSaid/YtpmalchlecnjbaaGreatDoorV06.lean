/- Joined texts: Spec, LawConn, LawQuant, LawEnv, LawNest, LawNnf, LawAdd. -/
import Derived.Test.YtpmalchlecnjbaaGreatDoorV04
import Derived.Lib.IndexMore
set_option linter.unusedVariables false
set_option linter.unusedSimpArgs false
/- The layers school, week, formula, types and eval as functions of Lean data. No program is named here. -/
namespace Go.Chalk
def reservedS:Bs:=[32,104,97,114,100,32,115,111,102,116,32,101,97,99,104,32,97,108,108,32,115,111,109,101,32,108,101,97,115,116,32,109,111,115,116,32,116,114,117,101,32,102,97,108,115,101,32,97,116,32,105,110,32,116,101,97,99,104,101,115,32,97,116,116,101,110,100,115,32,97,119,97,121,32,115,104,117,116,32,100,97,121,32,104,111,117,114,32,104,111,117,115,101,32,115,101,97,116,115,32,115,105,122,101,32,108,101,115,115,111,110,32,115,108,111,116,32,114,111,111,109,32,112,101,114,115,111,110,32,103,114,111,117,112,32]
def reservedL:List Bs:=[[104,97,114,100],[115,111,102,116],[101,97,99,104],[97,108,108],[115,111,109,101],[108,101,97,115,116],[109,111,115,116],[116,114,117,101],[102,97,108,115,101],[97,116],[105,110],[116,101,97,99,104,101,115],[97,116,116,101,110,100,115],[97,119,97,121],[115,104,117,116],[100,97,121],[104,111,117,114],[104,111,117,115,101],[115,101,97,116,115],[115,105,122,101],[108,101,115,115,111,110],[115,108,111,116],[114,111,111,109],[112,101,114,115,111,110],[103,114,111,117,112]]

def schNamed (s:Bs):Bool:=match s with
 | []=>false
 | c :: r=>decide ((c :: r).length<=64)&&decide (97<=c.toNat)&&(c :: r).all innerB&&!(Lib.contains reservedS (32 :: ((c :: r)++[32])))
def frmNamed (s:Bs):Bool:=match s with
 | []=>false
 | c :: r=>decide ((c :: r).length<=64)&&!(reservedL.contains (c :: r))&&(c :: r).all innerB&&decide (97<=c.toNat)

def arityF (k:Int):Option Nat :=
 if k<1∨17<k then none else if k<=9 then some 0 else if k=10 then some 1 else if k<=13 then some 2 else some 1
def atomK (k:Int):Bool:=decide (3<=k)&&decide (k<=9)
def quantK (k:Int):Bool:=decide (14<=k)&&decide (k<=17)
def countK (k:Int):Bool:=decide (k=16)||decide (k=17)
def numberB (n:Int):Bool:=decide (0<=n)&&decide (n<=1099511627776)
def cmpL:List Bs:=[[61],[33,61],[60],[60,61],[62],[62,61]]
def termedF (t:Trm):Bool:=if t.kind=1 then t.name.isEmpty&&numberB t.n else decide (2<=t.kind)&&decide (t.kind<=7)&&frmNamed t.name&&decide (t.n=0)
def bndOk (b:Bnd):Bool:=frmNamed b.name&&decide (1<=b.sort)&&decide (b.sort<=7)
def partsOk (f:Frm):Bool :=
 (arityF f.kind==some f.l.length)&&(f.terms.isEmpty||atomK f.kind)&&(f.binds.isEmpty||quantK f.kind)&&(decide (f.n=0)||countK f.kind)&&(f.name.isEmpty||decide (f.kind=9))
def formedF (f:Frm):Bool :=
 partsOk f &&
  (if f.kind=9/\cmpL.contains f.name=false then false
   else if atomK f.kind then decide (f.terms.length=2)&&f.terms.all (fun t=>termedF t&&(decide (f.kind=9)||decide (t.kind=2)))
   else if quantK f.kind then decide (0<f.binds.length)&&decide (f.binds.length<=6)&&f.binds.all bndOk&&numberB f.n
   else true)
theorem partsOk_mk (kind:Int) (name:Bs) (n:Int) (terms:List Trm) (binds:List Bnd) (l:List Frm):partsOk (.mk kind name n terms binds l) =
  ((arityF kind==some l.length)&&(terms.isEmpty||atomK kind)&&(binds.isEmpty||quantK kind)&&(decide (n=0)||countK kind)&&(name.isEmpty||decide (kind=9))):=rfl
theorem formedF_mk (kind:Int) (name:Bs) (n:Int) (terms:List Trm) (binds:List Bnd) (l:List Frm):formedF (.mk kind name n terms binds l) =
  (partsOk (.mk kind name n terms binds l) &&
  (if kind=9/\cmpL.contains name=false then false
   else if atomK kind then decide (terms.length=2)&&terms.all (fun t=>termedF t&&(decide (kind=9)||decide (t.kind=2)))
   else if quantK kind then decide (0<binds.length)&&decide (binds.length<=6)&&binds.all bndOk&&numberB n
   else true)):=rfl
mutual
/-- The nodes of a formula, in preorder. -/
def nodesF:Frm->List Frm
 | .mk kind name n terms binds l=>.mk kind name n terms binds l :: nodesL l
def nodesL:List Frm->List Frm
 | []=>[]
 | f :: r=>nodesF f++nodesL r
end
def frmCheck (f:Frm):Int:=if (nodesF f).all formedF=false then 1 else if 256<f.size∨24<f.depth then 2 else 0

def quantHolds (kind n:Int) (yes all:Nat):Bool :=
 if kind=14 then yes==all else if kind=15 then decide (0<yes) else if kind=16 then decide (n<=yes) else decide ((yes:Int)<=n)
end Go.Chalk
/- The plain law of the connectives: what Holds answers of a negation, conjunction, disjunction, implication. No program is named here. -/
namespace Go.Chalk
end Go.Chalk
/- The plain law of the quantifiers over one variable. No program is named here. -/
namespace Go.Chalk
end Go.Chalk
/- What a formula says hangs on what its environment gives for each name, not on the order of its entries; a formula without 'at' and 'in' says the same of every week. No program is named here. -/
namespace Go.Chalk
end Go.Chalk
/- The plain law of nested quantifiers. No program is named here. -/
namespace Go.Chalk
theorem quant_any {α:Type} (n:Int) (l:List α) (p:α->Bool):quantHolds 15 n (l.countP p) l.length=l.any p:=by
 unfold quantHolds
 rw [if_neg (by decide),if_pos rfl,Bool.eq_iff_iff,decide_eq_true_eq,List.countP_pos_iff,List.any_eq_true]
end Go.Chalk
/- The plain law of negation normal forms. No program is named here. -/
namespace Go.Chalk
def negS (name:Bs):Bs:=if name=[61] then [33,61] else if name=[33,61] then [61] else if name=[60] then [62,61] else if name=[62,61] then [60] else if name=[60,61] then [62] else if name=[62] then [60,61] else []
end Go.Chalk
/- The plain law of Judge over two lists of rules. No program is named here. -/
namespace Go.Chalk
end Go.Chalk
