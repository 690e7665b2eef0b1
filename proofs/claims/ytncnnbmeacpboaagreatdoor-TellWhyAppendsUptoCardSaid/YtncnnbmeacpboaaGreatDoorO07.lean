/- Parts of the proof. -/
import Derived.Test.YtncnnbmeacpboaaGreatDoorO06
import Derived.Lib.ItoaNum
set_option linter.unusedVariables false
set_option linter.unusedSimpArgs false
namespace Go.aa
variable {α:Type} {f g:ag} {n k yes out:Int} {s:ax}
def fo:List (Bs×Int):=[([108,101,115,115,111,110],1),([115,108,111,116],2),([114,111,111,109],3),([112,101,114,115,111,110],4),([103,114,111,117,112],5),([100,97,121],6),([104,111,117,115,101],7)]
def gB:List (Bs×Int):=[([97,116],3),([105,110],4),([116,101,97,99,104,101,115],5),([97,116,116,101,110,100,115],6),([97,119,97,121],7),([115,104,117,116],8)]
def gQ:List (Bs×Int):=[([100,97,121],3),([104,111,117,114],4),([104,111,117,115,101],5),([115,101,97,116,115],6),([115,105,122,101],7)]
def eT:List (Bs×Int):=[([97,108,108],14),([115,111,109,101],15),([108,101,97,115,116],16),([109,111,115,116],17)]
def eZ(t:List (Bs×Int))(n:Int):Bs:=((t.find? (fun p=>p.2==n)).map Prod.fst).getD []
def kr(n:Int):Bs:=Lib.decDigits n.toNat
def bG(t:bV):Bs:=if t.kind=1 then kr t.n else if t.kind=2 then t.name else eZ gQ t.kind++([40]++(t.name++[41]))
def kN(b:aH):Bs:=b.name++([58,32]++eZ fo b.sort)
def ig:List aH->Bs
 |[]=>[]
 |b::r=>[44,32]++(kN b++ig r)
def aQ:List aH->Bs
 |[]=>[]
 |b::r=>kN b++ig r
def bR(k:Int):Nat:=if k=13 then 1 else if k=12 then 2 else if k=11 then 3 else 0
mutual
def dX:ag->Bs
 | .mk kind name n terms binds l=>
  if kind=1 then [116,114,117,101]
  else if kind=2 then [102,97,108,115,101]
  else if kind=9 then(match terms with|t::u::_=>bG t++([32]++(name++([32]++bG u)))|_=>[])
  else if kind=10 then [33]++cB l 0 4
  else if kind=11 then cB l 0 3++([32,38,32]++cB l 1 4)
  else if kind=12 then cB l 0 2++([32,124,32]++cB l 1 3)
  else if kind=13 then cB l 0 2++([32,45,62,32]++cB l 1 1)
  else if 14<=kind then eZ eT kind++([32]++((if 16<=kind then kr n++[32] else [])++(aQ binds++([32,40]++(cB l 0 0++[41])))))
  else(match terms with|t::u::_=>eZ gB kind++([40]++(bG t++([44,32]++(bG u++[41]))))|_=>[])
def cB:List ag->Nat->Nat->Bs
 |[],_,_=>[]
 |f::_,0,least=>if 0<bR f.kind/\bR f.kind<least then [40]++(dX f++[41]) else dX f
 |_::r,i+1,least=>cB r i least
end
theorem dU(kind:Int)(name:Bs)(n:Int)(binds:List aH)(l:List ag):dX (.mk kind name n [] binds l)=
  if kind=1 then [116,114,117,101]
  else if kind=2 then [102,97,108,115,101]
  else if kind=9 then []
  else if kind=10 then [33]++cB l 0 4
  else if kind=11 then cB l 0 3++([32,38,32]++cB l 1 4)
  else if kind=12 then cB l 0 2++([32,124,32]++cB l 1 3)
  else if kind=13 then cB l 0 2++([32,45,62,32]++cB l 1 1)
  else if 14<=kind then eZ eT kind++([32]++((if 16<=kind then kr n++[32] else [])++(aQ binds++([32,40]++(cB l 0 0++[41])))))
  else []:=by
 rw[dX];intro t u r h;cases h
theorem oF(kind:Int)(name:Bs)(n:Int)(t u:bV)(r:List bV)(binds:List aH)(l:List ag):dX (.mk kind name n (t::u::r) binds l)=
  if kind=1 then [116,114,117,101]
  else if kind=2 then [102,97,108,115,101]
  else if kind=9 then(bG t++([32]++(name++([32]++bG u))))
  else if kind=10 then [33]++cB l 0 4
  else if kind=11 then cB l 0 3++([32,38,32]++cB l 1 4)
  else if kind=12 then cB l 0 2++([32,124,32]++cB l 1 3)
  else if kind=13 then cB l 0 2++([32,45,62,32]++cB l 1 1)
  else if 14<=kind then eZ eT kind++([32]++((if 16<=kind then kr n++[32] else [])++(aQ binds++([32,40]++(cB l 0 0++[41])))))
  else(eZ gB kind++([40]++(bG t++([44,32]++(bG u++[41]))))):=by
 rw[dX]
def aR(f:ag)(least:Nat):Bs:=if 0<bR f.kind/\bR f.kind<least then [40]++(dX f++[41]) else dX f
theorem o9:∀(l:List ag) (i least:Nat) (h:i<l.length),cB l i least=aR l[i] least
 |f::_,0,least,_=>by rw[cB];rfl
 |_::r,i+1,least,h=>by rw[cB,o9 r i least (by simpa using h)];rfl
def gZ(f:ag):Bs×Int:=if aX f≠0 then([],aX f) else if 16384<(dX f).length then([],2) else(dX f,0)
def Gg(s:Bs):Bool:=y8 s&&!(dJ.contains s)
inductive Rs (α:Type) where
 |ok (a:α) (l:List Tok)
 |bad (at_:Nat)
def Rs.bind{α β:Type}:Rs α->(α->List Tok->Rs β)->Rs β
 | .ok a l,f=>f a l
 | .bad n,_=>.bad n
def Ko:List Tok->Rs Bs
 |[]=>.bad 0
 |t::r=>if t.kind=1/\dJ.contains t.text=false then .ok t.text r else .bad t.at_
inductive Iu:ag->Prop where
 |const (k:Int) (h:k=1∨k=2):Iu (.mk k [] 0 [] [] [])
 |atom (k:Int) (a b:Bs) (h1:3<=k) (h2:k<=8) (ha:bJ a=true) (hb:bJ b=true):Iu (.mk k [] 0 [⟨2,a,0⟩,⟨2,b,0⟩] [] [])
 |cmp (s:Bs) (t u:bV) (hs:cmpL.contains s=true) (ht:bf t=true) (hu:bf u=true):Iu (.mk 9 s 0 [t,u] [] [])
 |not (g:ag):Iu (.mk 10 [] 0 [] [] [g])
 |two (k:Int) (g h:ag) (h1:11<=k) (h2:k<=13):Iu (.mk k [] 0 [] [] [g,h])
 |Bn (k n:Int) (b:aH) (bs:List aH) (g:ag) (h1:14<=k) (h2:k<=17) (hn:0<=n) (hm:n<=1099511627776) (hz:k<=15->n=0) (hl:bs.length<=5) (hb:bu b=true) (hbs:bs.all bu=true):Iu (.mk k [] n [] (b::bs) [g])
theorem uP{l:List α}(h:l.length=0):l=[]:=List.length_eq_zero_iff.1 h
theorem rR{l:List α}(h:l.length=2):∃a b,l=[a,b]:=by
 match l,h with
 |[a,b],_=>exact⟨a,b,rfl⟩
theorem Iu.of(h:aD f=true):Iu f:=by
 obtain⟨kind,name,n,terms,binds,l⟩:=f;rw[kC,ng,Bool.and_eq_true] at h;obtain⟨h,h6⟩:=h;simp only[Bool.and_eq_true,Bool.or_eq_true,List.isEmpty_iff,decide_eq_true_eq,beq_iff_eq] at h;obtain⟨⟨⟨⟨h1,h2⟩,h3⟩,h4⟩,h5⟩:=h;have hk:1<=kind/\kind<=17:=by
  unfold dV at h1;by_cases hc:kind<1∨17<kind
  ·rw[if_pos hc] at h1;cases h1
  ·omega
 have hna:¬kind=9->name=[]:=fun hh=>h5.resolve_right hh;by_cases hq:14<=kind
 ·have ha:dL kind=false:=by simp[dL];omega
  have hqk:dP kind=true:=by simp[dP];omega
  have ht:terms=[]:=h2.resolve_right (by simp[ha]);have hl:l.length=1:=by
   unfold dV at h1;rw[if_neg (by omega),if_neg (by omega),if_neg (by omega),if_neg (by omega)] at h1;simpa using h1.symm
  rw[if_neg (by omega),ha,if_neg (by simp),if_pos hqk] at h6;simp only[Bool.and_eq_true,decide_eq_true_eq,eu] at h6;obtain⟨⟨⟨h7,h8⟩,h9⟩,h10,h11⟩:=h6;obtain⟨g,rfl⟩:=List.length_eq_one_iff.1 hl;cases binds with
  |nil=>simp at h7
  |cons b bs=>
   simp only[List.all_cons,Bool.and_eq_true] at h9;subst ht;rw[hna (by omega)];exact .Bn kind n b bs g hq hk.2 h10 h11 (fun Vj=>h4.resolve_right (by simp[iX];omega)) (by simpa using h8) h9.1 h9.2
 have hqk:dP kind=false:=by simp[dP];omega
 have hb:binds=[]:=h3.resolve_right (by simp[hqk]);have hn:n=0:=h4.resolve_right (by simp[iX];omega);subst hb hn;by_cases ha:3<=kind/\kind<=9
 ·have hak:dL kind=true:=by simp[dL];omega
  have hl:l=[]:=by
   unfold dV at h1;rw[if_neg (by omega),if_pos (by omega)] at h1;exact uP (by simpa using h1.symm)
  subst hl;by_cases h9:kind=9
  ·subst h9;by_cases hc:cmpL.contains name=false
   ·rw[if_pos ⟨rfl,hc⟩] at h6;cases h6
   ·rw[if_neg (fun hh=>hc hh.2),if_pos hak] at h6;simp only[Bool.and_eq_true,decide_eq_true_eq] at h6;obtain⟨t,u,rfl⟩:∃t u,terms=[t,u]:=rR h6.1;simp only[List.all_cons,List.all_nil,Bool.and_eq_true] at h6;exact .cmp name t u (by simpa using hc) h6.2.1.1 h6.2.2.1.1
  ·rw[if_neg (fun hh=>h9 hh.1),if_pos hak] at h6;simp only[Bool.and_eq_true,decide_eq_true_eq] at h6;obtain⟨t,u,rfl⟩:∃t u,terms=[t,u]:=rR h6.1;simp only[List.all_cons,List.all_nil,Bool.and_eq_true,Bool.or_eq_true,decide_eq_true_eq,h9,false_or] at h6;obtain⟨_,⟨h7,h8⟩,⟨h10,h11⟩,_⟩:=h6;have key:∀x:bV,bf x=true->x.kind=2->∃a,x=⟨2,a,0⟩/\bJ a=true:=by
    rintro⟨k,a,m⟩ hx hk2;dsimp only at hk2;subst hk2;unfold bf at hx;dsimp only at hx;rw[if_neg (by decide)] at hx;simp only[Bool.and_eq_true,decide_eq_true_eq] at hx;exact⟨a,by rw[hx.2],hx.1.2⟩
   obtain⟨a,rfl,ha'⟩:=key _ h7 h8;obtain⟨b,rfl,hb'⟩:=key _ h10 h11;rw[hna h9];exact .atom kind a b ha.1 (by omega) ha' hb'
 have hak:dL kind=false:=by simp[dL];omega
 have ht:terms=[]:=h2.resolve_right (by simp[hak]);subst ht;rw[hna (by omega)];by_cases h12:kind<=2
 ·have hl:l=[]:=by
   unfold dV at h1;rw[if_neg (by omega),if_pos (by omega)] at h1;exact uP (by simpa using h1.symm)
  subst hl;exact .const kind (by omega)
 by_cases h10:kind=10
 ·subst h10;have hl:l.length=1:=by
   unfold dV at h1;rw[if_neg (by omega),if_neg (by omega),if_pos rfl] at h1;simpa using h1.symm
  obtain⟨g,rfl⟩:=List.length_eq_one_iff.1 hl;exact .not g
 ·have hl:l.length=2:=by
   unfold dV at h1;rw[if_neg (by omega),if_neg (by omega),if_neg h10,if_pos (by omega)] at h1;simpa using h1.symm
  obtain⟨g,h,rfl⟩:=rR hl;exact .two kind g h (by omega) (by omega)
def wf(f:ag):Prop:=(aN f).all aD=true
theorem BA:∀l:List ag,(df l).all aD=true↔ ∀g∈l,(aN g).all aD=true
 |[]=>by simp[df]
 |g::r=>by
  rw[df,List.all_append,Bool.and_eq_true,BA r];simp only[List.mem_cons,forall_eq_or_imp]
theorem yV{kind:Int}{name:Bs}{terms:List bV}{binds:List aH}{l:List ag}:wf (.mk kind name n terms binds l)↔aD (.mk kind name n terms binds l)=true/\∀g∈l,wf g:=by
 unfold wf;rw[aN,List.all_cons,Bool.and_eq_true];refine and_congr_right (fun _=>?_);exact BA l
theorem DY(h:wf f):aD f=true:=by
 obtain⟨kind,name,n,terms,binds,l⟩:=f;exact(yV.1 h).1
theorem He(h:wf (.mk 10 [] 0 [] [] [g])):wf g:=(yV.1 h).2 g (by simp)
theorem wH{h:ag}(w:wf (.mk k [] 0 [] [] [g,h])):wf g/\wf h:=⟨(yV.1 w).2 g (by simp),(yV.1 w).2 h (by simp)⟩
theorem yX{bs:List aH}(w:wf (.mk k [] n [] bs [g])):wf g:=(yV.1 w).2 g (by simp)
theorem pO(h:aX f=0):wf f/\f.size<=256/\f.depth<=24:=by
 unfold aX at h;unfold wf;cases hb:(aN f).all aD with
 |false=>rw[hb] at h;simp at h
 |true=>
  rw[hb,if_neg (by simp)] at h;split at h
  ·cases h
  ·exact⟨rfl,by omega,by omega⟩
theorem Hd{P:ag->Prop}(const:∀k:Int,k=1∨k=2->P (.mk k [] 0 [] [] []))(atom:∀(k:Int) (a b:Bs),3<=k->k<=8->bJ a=true->bJ b=true->P (.mk k [] 0 [⟨2,a,0⟩,⟨2,b,0⟩] [] []))(cmp:∀(s:Bs) (t u:bV),cmpL.contains s=true->bf t=true->bf u=true->P (.mk 9 s 0 [t,u] [] []))(not:∀g:ag,wf g->P g->P (.mk 10 [] 0 [] [] [g]))(two:∀(k:Int) (g h:ag),11<=k->k<=13->wf g->wf h->P g->P h->P (.mk k [] 0 [] [] [g,h]))(Bn:∀(k n:Int) (b:aH) (bs:List aH) (g:ag),14<=k->k<=17->0<=n->n<=1099511627776->(k<=15->n=0)->bs.length<=5->bu b=true->bs.all bu=true->wf g->P g->P (.mk k [] n [] (b::bs) [g])):
  ∀f,wf f->P f:=by
 have key:∀N (f:ag),f.size<=N->wf f->P f:=by
  intro N
  induction N with
  |zero=>intro f h;have:=f.size_pos;omega
  |succ N ih=>
   intro f hN hw;cases Iu.of (DY hw) with
   |const k h=>exact const k h
   |atom k a b h1 h2 ha hb=>exact atom k a b h1 h2 ha hb
   |cmp s t u hs ht hu=>exact cmp s t u hs ht hu
   |not g=>
    simp only[ag.size,aY] at hN;exact not g (He hw) (ih g (by omega) (He hw))
   |two k g h h1 h2=>
    simp only[ag.size,aY] at hN;exact two k g h h1 h2 (wH hw).1 (wH hw).2 (ih g (by omega) (wH hw).1) (ih h (by omega) (wH hw).2)
   |Bn k n b bs g h1 h2 hn hm hz hl hb hbs=>
    simp only[ag.size,aY] at hN;exact Bn k n b bs g h1 h2 hn hm hz hl hb hbs (yX hw) (ih g (by omega) (yX hw))
 exact fun f hw=>key f.size f (Nat.le_refl _) hw
structure Ins where
 rule:Int
 binds:List Int
def cK(s:ax)(sort at_:Int):Bs:=if at_<0 then [] else((aj s sort)[at_.toNat]?).getD []
def iv(s:ax):List aH->List Int->Option (List Bs)
 |[],_=>some []
 |b::r,q=>match q with
  |[]=>none
  |i::q=>if cK s b.sort i=[] then none else(iv s r q).map (fun l=>cK s b.sort i::l)
def Cg(s:ax)(l:List aV)(i:Ins):Option (List Bs):=
 if i.rule<0 then none else match l[i.rule.toNat]? with
  |none=>none
  |some r=>if i.binds.length≠r.each.length then none else iv s r.each i.binds
def uO(m:List (Bs×Bs))(name:Bs):Option Bs:=(m.reverse.find? (fun p=>p.1==name)).map Prod.snd
def lK(m:List (Bs×Bs))(t:bV):bV:=match uO m t.name with|some x=>⟨t.kind,x,t.n⟩|none=>t
mutual
def fq(m:List (Bs×Bs)):ag->ag
 | .mk k s n t b l=>.mk k s n (t.map (lK m)) b (yF m l)
def yF(m:List (Bs×Bs)):List ag->List ag
 |[]=>[]
 |f::r=>fq m f::yF m r
end
def eB(p:Bs×Bs):Bs:=p.1++([32,61,32]++p.2)
def fE:List (Bs×Bs)->Bs
 |[]=>[]
 |[p]=>eB p
 |p::q::r=>eB p++([44,32]++fE (q::r))
def j5(name:Bs)(m:List (Bs×Bs)):Bs:=if m.isEmpty then name else name++([32,40]++(fE m++[41]))
def iR(s:ax)(l:List aV)(i:Ins):Bs×Int:=
 match Cg s l i,l[i.rule.toNat]? with
 |some ns,some r=>
  if(gZ (fq ((r.each.map aH.name).zip ns) r.body)).2≠0 then([],(gZ (fq ((r.each.map aH.name).zip ns) r.body)).2)
  else(j5 r.name ((r.each.map aH.name).zip ns)++([58,32]++(gZ (fq ((r.each.map aH.name).zip ns) r.body)).1),0)
 |_,_=>([],1)
def okF(s:ax)(l:List aV):Int:=if bM s≠0 then bM s else(j6 l).2
def pW(s:ax)(l:List aV)(i:Ins):Bs×Int:=if okF s l≠0 then([],okF s l) else iR s l i
def gY(r:aV):Bs:=(if r.hard then [104,97,114,100] else [115,111,102,116,32]++kr r.weight)++([32]++(r.name++[58]))
def eF(s:ax)(l:List aV):List Ins->Int
 |[]=>0
 |i::x=>if(iR s l i).2≠0 then(iR s l i).2 else eF s l x
def kE(s:ax)(l:List aV)(x:List Ins)(k:Nat)(r:aV):List Bs:=
 if x.any (fun i=>decide (i.rule=(k:Int))) then gY r::(x.filter (fun i=>decide (i.rule=(k:Int)))).map (fun i=>[32,32]++(iR s l i).1) else []
def dC(s:ax)(l:List aV)(x:List Ins):Nat->List aV->List Bs
 |_,[]=>[]
 |k,r::q=>kE s l x k r++dC s l x (k+1) q
def bF(s:ax)(l:List aV)(x:List Ins):List Bs×Int:=if eF s l x≠0 then([],eF s l x) else(dC s l x 0 l,0)
def fU(s:ax)(l:List aV)(x:List Ins):List Bs×Int:=if okF s l≠0 then([],okF s l) else bF s l x
def dx(x:List Ins)(l:List Int):List Ins:=l.filterMap (fun k=>x[k.toNat]?)
def dn(x:List Ins)(l:List Int):Bool:=l.any (fun k=>decide (k<0)||decide ((x.length:Int)<=k))
def ay(s:ax)(l:List aV)(x:List Ins)(ahead:Bs):List (List Int)->List Bs×Int
 |[]=>([],0)
 |p::r=>if(bF s l (dx x p)).2≠0 then([],(bF s l (dx x p)).2)
  else if(ay s l x ahead r).2≠0 then([],(ay s l x ahead r).2) else((ahead::(bF s l (dx x p)).1)++(ay s l x ahead r).1,0)
def bX:Bs:=[116,104,101,115,101,32,99,97,110,39,116,32,98,101,32,116,111,103,101,116,104,101,114,58]
def aK:Bs:=[119,105,116,104,111,117,116,32,116,104,101,115,101,32,116,104,101,114,101,32,105,115,32,97,32,119,101,101,107,58]
def gT:Bs:=[116,104,97,116,32,105,115,32,97,108,108]
def j4:Bs:=[116,104,101,114,101,32,109,97,121,32,98,101,32,109,111,114,101]
structure oJ where
 kind:Int
 az:List (List Int)
 fixes:List (List Int)
def fQ(yes out kind:Int):Option Bs:=if kind=yes then some gT else if kind=out then some j4 else none
def fP(yes out:Int)(s:ax)(l:List aV)(x:List Ins)(y:oJ):List Bs×Int:=
 if okF s l≠0 then([],okF s l)
 else match fQ yes out y.kind with
  |none=>([],1)
  |some last=>if y.az.any (dn x)||y.fixes.any (dn x) then([],1)
   else if(ay s l x bX y.az).2≠0 then([],(ay s l x bX y.az).2)
   else if(ay s l x aK y.fixes).2≠0 then([],(ay s l x aK y.fixes).2)
   else((ay s l x bX y.az).1++((ay s l x aK y.fixes).1++[last]),0)
theorem lL(s:ax)(l:List aV)(x:List Ins)(ahead:Bs)(p:List Int):∀q:List (List Int),(ay s l x ahead (q++[p])).2=0->
  (ay s l x ahead q).2=0/\(bF s l (dx x p)).2=0/\(ay s l x ahead (q++[p])).1=(ay s l x ahead q).1++(ahead::(bF s l (dx x p)).1)
 |[],h=>by
  simp only[List.nil_append,ay] at h ⊢;by_cases h1:(bF s l (dx x p)).2=0
  ·simp[h1]
  ·rw[if_pos h1] at h;exact absurd h h1
 |a::q,h=>by
  rw[List.cons_append,ay] at h;by_cases h1:(bF s l (dx x a)).2=0
  ·rw[if_neg (by simpa using h1)] at h;by_cases h2:(ay s l x ahead (q++[p])).2=0
   ·obtain⟨g1,g2,g3⟩:=lL s l x ahead p q h2;have e1:ay s l x ahead (a::q)=((ahead::(bF s l (dx x a)).1)++(ay s l x ahead q).1,0):=by rw[ay,if_neg (by simpa using h1),if_neg (by simpa using g1)]
    have e2:ay s l x ahead (a::(q++[p]))=((ahead::(bF s l (dx x a)).1)++(ay s l x ahead (q++[p])).1,0):=by rw[ay,if_neg (by simpa using h1),if_neg (by simpa using h2)]
    rw[List.cons_append,e1,e2];exact⟨rfl,g2,by simp only;rw[g3];simp⟩
   ·rw[if_pos (by simpa using h2)] at h;exact absurd h h2
  ·rw[if_pos (by simpa using h1)] at h;exact absurd h h1
theorem BB{l:List aV}{x:List Ins}{y:oJ}(h:(fP yes out s l x y).2=0):okF s l=0:=by
 unfold fP at h;by_cases h0:okF s l=0
 ·exact h0
 ·rw[if_pos h0] at h;exact absurd h h0
theorem yZ{l:List aV}{x:List Ins}{y:oJ}{more:List Int}(h:(fP yes out s l x y).2=0)(k:(fP yes out s l x ⟨y.kind,y.az,y.fixes++[more]⟩).2=0):
  dn x more=false/\(fU s l (dx x more)).2=0/\∃a last,(fP yes out s l x y).1=a++[last]/\(fP yes out s l x ⟨y.kind,y.az,y.fixes++[more]⟩).1=a++(aK::((fU s l (dx x more)).1++[last])):=by
 have h0:=BB h;unfold fP at h k ⊢;simp only[h0,ne_eq,not_true_eq_false,if_false] at h k ⊢;cases hw:fQ yes out y.kind with
 |none=>rw[hw] at h;cases h
 |some last=>
  rw[hw] at h k;simp only at h k ⊢;by_cases g1:(y.az.any (dn x)||y.fixes.any (dn x))=true
  ·rw[if_pos g1] at h;cases h
  rw[if_neg g1] at h ⊢;by_cases g2:(y.az.any (dn x)||(y.fixes++[more]).any (dn x))=true
  ·rw[if_pos g2] at k;cases k
  rw[if_neg g2] at k ⊢;have hodd:dn x more=false:=by
   simp only[List.any_append,List.any_cons,List.any_nil,Bool.or_false,Bool.or_eq_true,not_or] at g2;simpa using g2.2.2
  by_cases g3:(ay s l x bX y.az).2=0
  ·rw[if_neg (by simpa using g3)] at h k;by_cases g4:(ay s l x aK (y.fixes++[more])).2=0
   ·obtain⟨e1,e2,e3⟩:=lL s l x aK more y.fixes g4;simp only[g3,g4,e1,ne_eq,not_true_eq_false,if_false];refine⟨hodd,by unfold fU;rw[if_neg (by rw[h0];decide)];exact e2,(ay s l x bX y.az).1++(ay s l x aK y.fixes).1,last,by simp,?_⟩;rw[e3,show fU s l (dx x more)=bF s l (dx x more) by unfold fU;rw[if_neg (by rw[h0];decide)]];simp
   ·rw[if_pos (by simpa using g4)] at k;exact absurd k g4
  ·rw[if_pos (by simpa using g3)] at h;exact absurd h g3
end Go.aa
