/- Joined texts: SySpec, SyShp, TlSpec. -/
import Derived.Test.YtncnnbmeacpboaaGreatDoorN06
import Derived.Lib.ItoaNum
set_option linter.unusedVariables false
set_option linter.unusedSimpArgs false
/- The layer syntax as functions of Lean data: the canonical text, and the parser over tokens. No program is named here. -/
namespace Go.Chalk
def kwSort:List (Bs×Int):=[([108,101,115,115,111,110],1),([115,108,111,116],2),([114,111,111,109],3),([112,101,114,115,111,110],4),([103,114,111,117,112],5),([100,97,121],6),([104,111,117,115,101],7)]
def kwAtom:List (Bs×Int):=[([97,116],3),([105,110],4),([116,101,97,99,104,101,115],5),([97,116,116,101,110,100,115],6),([97,119,97,121],7),([115,104,117,116],8)]
def kwTerm:List (Bs×Int):=[([100,97,121],3),([104,111,117,114],4),([104,111,117,115,101],5),([115,101,97,116,115],6),([115,105,122,101],7)]
def kwAll:List (Bs×Int):=[([97,108,108],14),([115,111,109,101],15),([108,101,97,115,116],16),([109,111,115,116],17)]
def kwOf (t:List (Bs×Int)) (n:Int):Bs:=((t.find? (fun p=>p.2==n)).map Prod.fst).getD []
def decI (n:Int):Bs:=Lib.decDigits n.toNat

def txtTerm (t:Trm):Bs:=if t.kind=1 then decI t.n else if t.kind=2 then t.name else kwOf kwTerm t.kind++([40]++(t.name++[41]))
def txtBind (b:Bnd):Bs:=b.name++([58,32]++kwOf kwSort b.sort)
def txtMore:List Bnd->Bs
 | []=>[]
 | b :: r=>[44,32]++(txtBind b++txtMore r)
def txtBinds:List Bnd->Bs
 | []=>[]
 | b :: r=>txtBind b++txtMore r
def tightK (k:Int):Nat:=if k=13 then 1 else if k=12 then 2 else if k=11 then 3 else 0
mutual
/-- writer.form -/
def txtF:Frm->Bs
 | .mk kind name n terms binds l =>
  if kind=1 then [116,114,117,101]
  else if kind=2 then [102,97,108,115,101]
  else if kind=9 then (match terms with | t :: u :: _=>txtTerm t++([32]++(name++([32]++txtTerm u))) | _=>[])
  else if kind=10 then [33]++txtAt l 0 4
  else if kind=11 then txtAt l 0 3++([32,38,32]++txtAt l 1 4)
  else if kind=12 then txtAt l 0 2++([32,124,32]++txtAt l 1 3)
  else if kind=13 then txtAt l 0 2++([32,45,62,32]++txtAt l 1 1)
  else if 14<=kind then kwOf kwAll kind++([32]++((if 16<=kind then decI n++[32] else [])++(txtBinds binds++([32,40]++(txtAt l 0 0++[41])))))
  else (match terms with | t :: u :: _=>kwOf kwAtom kind++([40]++(txtTerm t++([44,32]++(txtTerm u++[41])))) | _=>[])
/-- writer.within, at the i-th operand. -/
def txtAt:List Frm->Nat->Nat->Bs
 | [],_,_=>[]
 | f :: _,0,least=>if 0<tightK f.kind/\tightK f.kind<least then [40]++(txtF f++[41]) else txtF f
 | _ :: r,i+1,least=>txtAt r i least
end
theorem txtF_nil (kind:Int) (name:Bs) (n:Int) (binds:List Bnd) (l:List Frm):txtF (.mk kind name n [] binds l) =
  if kind=1 then [116,114,117,101]
  else if kind=2 then [102,97,108,115,101]
  else if kind=9 then []
  else if kind=10 then [33]++txtAt l 0 4
  else if kind=11 then txtAt l 0 3++([32,38,32]++txtAt l 1 4)
  else if kind=12 then txtAt l 0 2++([32,124,32]++txtAt l 1 3)
  else if kind=13 then txtAt l 0 2++([32,45,62,32]++txtAt l 1 1)
  else if 14<=kind then kwOf kwAll kind++([32]++((if 16<=kind then decI n++[32] else [])++(txtBinds binds++([32,40]++(txtAt l 0 0++[41])))))
  else []:=by
 rw [txtF];intro t u r h;cases h
theorem txtF_two (kind:Int) (name:Bs) (n:Int) (t u:Trm) (r:List Trm) (binds:List Bnd) (l:List Frm):txtF (.mk kind name n (t :: u :: r) binds l) =
  if kind=1 then [116,114,117,101]
  else if kind=2 then [102,97,108,115,101]
  else if kind=9 then (txtTerm t++([32]++(name++([32]++txtTerm u))))
  else if kind=10 then [33]++txtAt l 0 4
  else if kind=11 then txtAt l 0 3++([32,38,32]++txtAt l 1 4)
  else if kind=12 then txtAt l 0 2++([32,124,32]++txtAt l 1 3)
  else if kind=13 then txtAt l 0 2++([32,45,62,32]++txtAt l 1 1)
  else if 14<=kind then kwOf kwAll kind++([32]++((if 16<=kind then decI n++[32] else [])++(txtBinds binds++([32,40]++(txtAt l 0 0++[41])))))
  else (kwOf kwAtom kind++([40]++(txtTerm t++([44,32]++(txtTerm u++[41]))))):=by
 rw [txtF]
def txtIn (f:Frm) (least:Nat):Bs:=if 0<tightK f.kind/\tightK f.kind<least then [40]++(txtF f++[41]) else txtF f
theorem txtAt_get:∀ (l:List Frm) (i least:Nat) (h:i<l.length),txtAt l i least=txtIn l[i] least
 | f :: _,0,least,_=>by rw [txtAt];rfl
 | _ :: r,i+1,least,h=>by rw [txtAt,txtAt_get r i least (by simpa using h)];rfl
def synText (f:Frm):Bs×Int:=if frmCheck f ≠ 0 then ([],frmCheck f) else if 16384<(txtF f).length then ([],2) else (txtF f,0)
def nameB (s:Bs):Bool:=wordB s&&!(reservedL.contains s)
inductive Rs (α:Type) where
 | ok (a:α) (l:List Tok)
 | bad (at_:Nat)
def Rs.bind {α β:Type}:Rs α->(α->List Tok->Rs β)->Rs β
 | .ok a l,f=>f a l
 | .bad n,_=>.bad n
def pName:List Tok->Rs Bs
 | []=>.bad 0
 | t :: r=>if t.kind=1/\reservedL.contains t.text=false then .ok t.text r else .bad t.at_
end Go.Chalk
/- The shapes of well-formed formulas. No program is named here. -/
namespace Go.Chalk
inductive Shp:Frm->Prop where
 | const (k:Int) (h:k=1∨k=2):Shp (.mk k [] 0 [] [] [])
 | atom (k:Int) (a b:Bs) (h1:3<=k) (h2:k<=8) (ha:frmNamed a=true) (hb:frmNamed b=true):Shp (.mk k [] 0 [⟨2,a,0⟩,⟨2,b,0⟩] [] [])
 | cmp (s:Bs) (t u:Trm) (hs:cmpL.contains s=true) (ht:termedF t=true) (hu:termedF u=true):Shp (.mk 9 s 0 [t,u] [] [])
 | not (g:Frm):Shp (.mk 10 [] 0 [] [] [g])
 | two (k:Int) (g h:Frm) (h1:11<=k) (h2:k<=13):Shp (.mk k [] 0 [] [] [g,h])
 | quant (k n:Int) (b:Bnd) (bs:List Bnd) (g:Frm) (h1:14<=k) (h2:k<=17) (hn:0<=n) (hm:n<=1099511627776) (hz:k<=15->n=0) (hl:bs.length<=5) (hb:bndOk b=true) (hbs:bs.all bndOk=true):Shp (.mk k [] n [] (b :: bs) [g])
theorem len_zero' {α:Type} {l:List α} (h:l.length=0):l=[]:=List.length_eq_zero_iff.1 h
theorem len_two' {α:Type} {l:List α} (h:l.length=2):∃ a b,l=[a,b]:=by
 match l,h with
 | [a,b],_=>exact ⟨a,b,rfl⟩
theorem Shp.of {f:Frm} (h:formedF f=true):Shp f:=by
 obtain ⟨kind,name,n,terms,binds,l⟩:=f
 rw [formedF_mk,partsOk_mk,Bool.and_eq_true] at h
 obtain ⟨h,h6⟩:=h
 simp only [Bool.and_eq_true,Bool.or_eq_true,List.isEmpty_iff,decide_eq_true_eq,beq_iff_eq] at h
 obtain ⟨⟨⟨⟨h1,h2⟩,h3⟩,h4⟩,h5⟩:=h
 have hk:1<=kind/\kind<=17:=by
  unfold arityF at h1
  by_cases hc:kind<1∨17<kind
  ·rw [if_pos hc] at h1;cases h1
  ·omega
 have hna:¬ kind=9->name=[]:=fun hh=>h5.resolve_right hh
 by_cases hq:14<=kind
 ·have ha:atomK kind=false:=by simp [atomK];omega
  have hqk:quantK kind=true:=by simp [quantK];omega
  have ht:terms=[]:=h2.resolve_right (by simp [ha])
  have hl:l.length=1:=by
   unfold arityF at h1
   rw [if_neg (by omega),if_neg (by omega),if_neg (by omega),if_neg (by omega)] at h1
   simpa using h1.symm
  rw [if_neg (by omega),ha,if_neg (by simp),if_pos hqk] at h6
  simp only [Bool.and_eq_true,decide_eq_true_eq,numberB] at h6
  obtain ⟨⟨⟨h7,h8⟩,h9⟩,h10,h11⟩:=h6
  obtain ⟨g,rfl⟩:=List.length_eq_one_iff.1 hl
  cases binds with
  | nil=>simp at h7
  | cons b bs =>
   simp only [List.all_cons,Bool.and_eq_true] at h9
   subst ht
   rw [hna (by omega)]
   exact .quant kind n b bs g hq hk.2 h10 h11 (fun h15=>h4.resolve_right (by simp [countK];omega)) (by simpa using h8) h9.1 h9.2
 have hqk:quantK kind=false:=by simp [quantK];omega
 have hb:binds=[]:=h3.resolve_right (by simp [hqk])
 have hn:n=0:=h4.resolve_right (by simp [countK];omega)
 subst hb hn
 by_cases ha:3<=kind/\kind<=9
 ·have hak:atomK kind=true:=by simp [atomK];omega
  have hl:l=[]:=by
   unfold arityF at h1
   rw [if_neg (by omega),if_pos (by omega)] at h1
   exact len_zero' (by simpa using h1.symm)
  subst hl
  by_cases h9:kind=9
  ·subst h9
   by_cases hc:cmpL.contains name=false
   ·rw [if_pos ⟨rfl,hc⟩] at h6;cases h6
   ·rw [if_neg (fun hh=>hc hh.2),if_pos hak] at h6
    simp only [Bool.and_eq_true,decide_eq_true_eq] at h6
    obtain ⟨t,u,rfl⟩:∃ t u,terms=[t,u]:=len_two' h6.1
    simp only [List.all_cons,List.all_nil,Bool.and_eq_true] at h6
    exact .cmp name t u (by simpa using hc) h6.2.1.1 h6.2.2.1.1
  ·rw [if_neg (fun hh=>h9 hh.1),if_pos hak] at h6
   simp only [Bool.and_eq_true,decide_eq_true_eq] at h6
   obtain ⟨t,u,rfl⟩:∃ t u,terms=[t,u]:=len_two' h6.1
   simp only [List.all_cons,List.all_nil,Bool.and_eq_true,Bool.or_eq_true,decide_eq_true_eq,h9,false_or] at h6
   obtain ⟨_,⟨h7,h8⟩,⟨h10,h11⟩,_⟩:=h6
   have key:∀ x:Trm,termedF x=true->x.kind=2->∃ a,x=⟨2,a,0⟩/\frmNamed a=true:=by
    rintro ⟨k,a,m⟩ hx hk2
    dsimp only at hk2
    subst hk2
    unfold termedF at hx
    dsimp only at hx
    rw [if_neg (by decide)] at hx
    simp only [Bool.and_eq_true,decide_eq_true_eq] at hx
    exact ⟨a,by rw [hx.2],hx.1.2⟩
   obtain ⟨a,rfl,ha'⟩:=key _ h7 h8
   obtain ⟨b,rfl,hb'⟩:=key _ h10 h11
   rw [hna h9]
   exact .atom kind a b ha.1 (by omega) ha' hb'
 have hak:atomK kind=false:=by simp [atomK];omega
 have ht:terms=[]:=h2.resolve_right (by simp [hak])
 subst ht
 rw [hna (by omega)]
 by_cases h12:kind<=2
 ·have hl:l=[]:=by
   unfold arityF at h1
   rw [if_neg (by omega),if_pos (by omega)] at h1
   exact len_zero' (by simpa using h1.symm)
  subst hl
  exact .const kind (by omega)
 by_cases h10:kind=10
 ·subst h10
  have hl:l.length=1:=by
   unfold arityF at h1
   rw [if_neg (by omega),if_neg (by omega),if_pos rfl] at h1
   simpa using h1.symm
  obtain ⟨g,rfl⟩:=List.length_eq_one_iff.1 hl
  exact .not g
 ·have hl:l.length=2:=by
   unfold arityF at h1
   rw [if_neg (by omega),if_neg (by omega),if_neg h10,if_pos (by omega)] at h1
   simpa using h1.symm
  obtain ⟨g,h,rfl⟩:=len_two' hl
  exact .two kind g h (by omega) (by omega)
def wf (f:Frm):Prop:=(nodesF f).all formedF=true
theorem wf_list:∀ l:List Frm,(nodesL l).all formedF=true ↔ ∀ g∈l,(nodesF g).all formedF=true
 | []=>by simp [nodesL]
 | g :: r=>by
  rw [nodesL,List.all_append,Bool.and_eq_true,wf_list r]
  simp only [List.mem_cons,forall_eq_or_imp]
theorem wf_mk {kind:Int} {name:Bs} {n:Int} {terms:List Trm} {binds:List Bnd} {l:List Frm}:wf (.mk kind name n terms binds l) ↔ formedF (.mk kind name n terms binds l)=true/\∀ g∈l,wf g:=by
 unfold wf
 rw [nodesF,List.all_cons,Bool.and_eq_true]
 refine and_congr_right (fun _=>?_)
 exact wf_list l
theorem wf_formed {f:Frm} (h:wf f):formedF f=true:=by
 obtain ⟨kind,name,n,terms,binds,l⟩:=f
 exact (wf_mk.1 h).1
theorem wf_not {g:Frm} (h:wf (.mk 10 [] 0 [] [] [g])):wf g:=(wf_mk.1 h).2 g (by simp)
theorem wf_two {k:Int} {g h:Frm} (w:wf (.mk k [] 0 [] [] [g,h])):wf g/\wf h:=⟨(wf_mk.1 w).2 g (by simp),(wf_mk.1 w).2 h (by simp)⟩
theorem wf_quant {k n:Int} {bs:List Bnd} {g:Frm} (w:wf (.mk k [] n [] bs [g])):wf g:=(wf_mk.1 w).2 g (by simp)
theorem frmCheck_wf {f:Frm} (h:frmCheck f=0):wf f/\f.size<=256/\f.depth<=24:=by
 unfold frmCheck at h
 unfold wf
 cases hb:(nodesF f).all formedF with
 | false=>rw [hb] at h;simp at h
 | true =>
  rw [hb,if_neg (by simp)] at h
  split at h
  ·cases h
  ·exact ⟨rfl,by omega,by omega⟩
theorem wf_ind {P:Frm->Prop}
  (const:∀ k:Int,k=1∨k=2->P (.mk k [] 0 [] [] []))
  (atom:∀ (k:Int) (a b:Bs),3<=k->k<=8->frmNamed a=true->frmNamed b=true->P (.mk k [] 0 [⟨2,a,0⟩,⟨2,b,0⟩] [] []))
  (cmp:∀ (s:Bs) (t u:Trm),cmpL.contains s=true->termedF t=true->termedF u=true->P (.mk 9 s 0 [t,u] [] []))
  (not:∀ g:Frm,wf g->P g->P (.mk 10 [] 0 [] [] [g]))
  (two:∀ (k:Int) (g h:Frm),11<=k->k<=13->wf g->wf h->P g->P h->P (.mk k [] 0 [] [] [g,h]))
  (quant:∀ (k n:Int) (b:Bnd) (bs:List Bnd) (g:Frm),14<=k->k<=17->0<=n->n<=1099511627776->(k<=15->n=0)->bs.length<=5->bndOk b=true->bs.all bndOk=true->wf g->P g->P (.mk k [] n [] (b :: bs) [g])) :
  ∀ f,wf f->P f:=by
 have key:∀ N (f:Frm),f.size<=N->wf f->P f:=by
  intro N
  induction N with
  | zero=>intro f h;have:=f.size_pos;omega
  | succ N ih =>
   intro f hN hw
   cases Shp.of (wf_formed hw) with
   | const k h=>exact const k h
   | atom k a b h1 h2 ha hb=>exact atom k a b h1 h2 ha hb
   | cmp s t u hs ht hu=>exact cmp s t u hs ht hu
   | not g =>
    simp only [Frm.size,fsizes] at hN
    exact not g (wf_not hw) (ih g (by omega) (wf_not hw))
   | two k g h h1 h2 =>
    simp only [Frm.size,fsizes] at hN
    exact two k g h h1 h2 (wf_two hw).1 (wf_two hw).2 (ih g (by omega) (wf_two hw).1) (ih h (by omega) (wf_two hw).2)
   | quant k n b bs g h1 h2 hn hm hz hl hb hbs =>
    simp only [Frm.size,fsizes] at hN
    exact quant k n b bs g h1 h2 hn hm hz hl hb hbs (wf_quant hw) (ih g (by omega) (wf_quant hw))
 exact fun f hw=>key f.size f (Nat.le_refl _) hw
end Go.Chalk
/- The layer tell as functions of Lean data. No program is named here. -/
namespace Go.Chalk
structure Ins where
 rule:Int
 binds:List Int
def elName (s:Schl) (sort at_:Int):Bs:=if at_<0 then [] else ((schNames s sort)[at_.toNat]?).getD []
def elsGo (s:Schl):List Bnd->List Int->Option (List Bs)
 | [],_=>some []
 | b :: r,q=>match q with
  | []=>none
  | i :: q=>if elName s b.sort i=[] then none else (elsGo s r q).map (fun l=>elName s b.sort i :: l)
def elsF (s:Schl) (l:List Rul) (i:Ins):Option (List Bs) :=
 if i.rule<0 then none else match l[i.rule.toNat]? with
  | none=>none
  | some r=>if i.binds.length ≠ r.each.length then none else elsGo s r.each i.binds
def lastP (m:List (Bs×Bs)) (name:Bs):Option Bs:=(m.reverse.find? (fun p=>p.1==name)).map Prod.snd
def renT (m:List (Bs×Bs)) (t:Trm):Trm:=match lastP m t.name with | some x=>⟨t.kind,x,t.n⟩ | none=>t
mutual
/-- The formula with its variables renamed. -/
def renF (m:List (Bs×Bs)):Frm->Frm
 | .mk k s n t b l=>.mk k s n (t.map (renT m)) b (renL m l)
def renL (m:List (Bs×Bs)):List Frm->List Frm
 | []=>[]
 | f :: r=>renF m f :: renL m r
end
def pairTxt (p:Bs×Bs):Bs:=p.1++([32,61,32]++p.2)
def pairsTxt:List (Bs×Bs)->Bs
 | []=>[]
 | [p]=>pairTxt p
 | p :: q :: r=>pairTxt p++([44,32]++pairsTxt (q :: r))
def sentHead (name:Bs) (m:List (Bs×Bs)):Bs:=if m.isEmpty then name else name++([32,40]++(pairsTxt m++[41]))
def sentF (s:Schl) (l:List Rul) (i:Ins):Bs×Int :=
 match elsF s l i,l[i.rule.toNat]? with
 | some ns,some r =>
  if (synText (renF ((r.each.map Bnd.name).zip ns) r.body)).2 ≠ 0 then ([],(synText (renF ((r.each.map Bnd.name).zip ns) r.body)).2)
  else (sentHead r.name ((r.each.map Bnd.name).zip ns)++([58,32]++(synText (renF ((r.each.map Bnd.name).zip ns) r.body)).1),0)
 | _,_=>([],1)
def okF (s:Schl) (l:List Rul):Int:=if schCheck s ≠ 0 then schCheck s else (typRules l).2
def instF (s:Schl) (l:List Rul) (i:Ins):Bs×Int:=if okF s l ≠ 0 then ([],okF s l) else sentF s l i
def ruleHead (r:Rul):Bs:=(if r.hard then [104,97,114,100] else [115,111,102,116,32]++decI r.weight)++([32]++(r.name++[58]))
def sentsErr (s:Schl) (l:List Rul):List Ins->Int
 | []=>0
 | i :: x=>if (sentF s l i).2 ≠ 0 then (sentF s l i).2 else sentsErr s l x
def linesOf (s:Schl) (l:List Rul) (x:List Ins) (k:Nat) (r:Rul):List Bs :=
 if x.any (fun i=>decide (i.rule=(k:Int))) then ruleHead r :: (x.filter (fun i=>decide (i.rule=(k:Int)))).map (fun i=>[32,32]++(sentF s l i).1) else []
def byRuleGo (s:Schl) (l:List Rul) (x:List Ins):Nat->List Rul->List Bs
 | _,[]=>[]
 | k,r :: q=>linesOf s l x k r++byRuleGo s l x (k+1) q
def byRuleF (s:Schl) (l:List Rul) (x:List Ins):List Bs×Int:=if sentsErr s l x ≠ 0 then ([],sentsErr s l x) else (byRuleGo s l x 0 l,0)
def instsF (s:Schl) (l:List Rul) (x:List Ins):List Bs×Int:=if okF s l ≠ 0 then ([],okF s l) else byRuleF s l x
def pickF (x:List Ins) (l:List Int):List Ins:=l.filterMap (fun k=>x[k.toNat]?)
def oddSet (x:List Ins) (l:List Int):Bool:=l.any (fun k=>decide (k<0)||decide ((x.length:Int)<=k))
def setsGo (s:Schl) (l:List Rul) (x:List Ins) (ahead:Bs):List (List Int)->List Bs×Int
 | []=>([],0)
 | p :: r=>if (byRuleF s l (pickF x p)).2 ≠ 0 then ([],(byRuleF s l (pickF x p)).2)
  else if (setsGo s l x ahead r).2 ≠ 0 then ([],(setsGo s l x ahead r).2) else ((ahead :: (byRuleF s l (pickF x p)).1)++(setsGo s l x ahead r).1,0)
def aheadCores:Bs:=[116,104,101,115,101,32,99,97,110,39,116,32,98,101,32,116,111,103,101,116,104,101,114,58]
def aheadFixes:Bs:=[119,105,116,104,111,117,116,32,116,104,101,115,101,32,116,104,101,114,101,32,105,115,32,97,32,119,101,101,107,58]
def lastAll:Bs:=[116,104,97,116,32,105,115,32,97,108,108]
def lastMore:Bs:=[116,104,101,114,101,32,109,97,121,32,98,101,32,109,111,114,101]
structure WhyD where
 kind:Int
 cores:List (List Int)
 fixes:List (List Int)
def whyLast (yes out kind:Int):Option Bs:=if kind=yes then some lastAll else if kind=out then some lastMore else none
def whyF (yes out:Int) (s:Schl) (l:List Rul) (x:List Ins) (y:WhyD):List Bs×Int :=
 if okF s l ≠ 0 then ([],okF s l)
 else match whyLast yes out y.kind with
  | none=>([],1)
  | some last=>if y.cores.any (oddSet x)||y.fixes.any (oddSet x) then ([],1)
   else if (setsGo s l x aheadCores y.cores).2 ≠ 0 then ([],(setsGo s l x aheadCores y.cores).2)
   else if (setsGo s l x aheadFixes y.fixes).2 ≠ 0 then ([],(setsGo s l x aheadFixes y.fixes).2)
   else ((setsGo s l x aheadCores y.cores).1++((setsGo s l x aheadFixes y.fixes).1++[last]),0)
end Go.Chalk
