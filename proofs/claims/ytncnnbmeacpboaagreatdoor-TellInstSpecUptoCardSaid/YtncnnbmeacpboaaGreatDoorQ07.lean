/- Parts of the proof. -/
import Derived.Test.YtncnnbmeacpboaaGreatDoorQ06
import Derived.Lib.ItoaNum
set_option linter.unusedVariables false
set_option linter.unusedSimpArgs false
namespace Go.aa
variable {α:Type} {f g:ae} {n k:Int}
def fE:List (Bs×Int):=[([108,101,115,115,111,110],1),([115,108,111,116],2),([114,111,111,109],3),([112,101,114,115,111,110],4),([103,114,111,117,112],5),([100,97,121],6),([104,111,117,115,101],7)]
def gU:List (Bs×Int):=[([97,116],3),([105,110],4),([116,101,97,99,104,101,115],5),([97,116,116,101,110,100,115],6),([97,119,97,121],7),([115,104,117,116],8)]
def ig:List (Bs×Int):=[([100,97,121],3),([104,111,117,114],4),([104,111,117,115,101],5),([115,101,97,116,115],6),([115,105,122,101],7)]
def fD:List (Bs×Int):=[([97,108,108],14),([115,111,109,101],15),([108,101,97,115,116],16),([109,111,115,116],17)]
def eO(t:List (Bs×Int))(n:Int):Bs:=((t.find? (fun p=>p.2==n)).map Prod.fst).getD []
def l5(n:Int):Bs:=Lib.decDigits n.toNat
def bC(t:bH):Bs:=if t.kind=1 then l5 t.n else if t.kind=2 then t.name else eO ig t.kind++([40]++(t.name++[41]))
def kE(b:aD):Bs:=b.name++([58,32]++eO fE b.sort)
def jl:List aD->Bs
 |[]=>[]
 |b::r=>[44,32]++(kE b++jl r)
def aO:List aD->Bs
 |[]=>[]
 |b::r=>kE b++jl r
def dm(k:Int):Nat:=if k=13 then 1 else if k=12 then 2 else if k=11 then 3 else 0
mutual
def bL:ae->Bs
 | .mk kind name n terms binds l=>
  if kind=1 then [116,114,117,101]
  else if kind=2 then [102,97,108,115,101]
  else if kind=9 then(match terms with|t::u::_=>bC t++([32]++(name++([32]++bC u)))|_=>[])
  else if kind=10 then [33]++dA l 0 4
  else if kind=11 then dA l 0 3++([32,38,32]++dA l 1 4)
  else if kind=12 then dA l 0 2++([32,124,32]++dA l 1 3)
  else if kind=13 then dA l 0 2++([32,45,62,32]++dA l 1 1)
  else if 14<=kind then eO fD kind++([32]++((if 16<=kind then l5 n++[32] else [])++(aO binds++([32,40]++(dA l 0 0++[41])))))
  else(match terms with|t::u::_=>eO gU kind++([40]++(bC t++([44,32]++(bC u++[41]))))|_=>[])
def dA:List ae->Nat->Nat->Bs
 |[],_,_=>[]
 |f::_,0,least=>if 0<dm f.kind/\dm f.kind<least then [40]++(bL f++[41]) else bL f
 |_::r,i+1,least=>dA r i least
end
theorem dh(kind:Int)(name:Bs)(n:Int)(binds:List aD)(l:List ae):bL (.mk kind name n [] binds l)=
  if kind=1 then [116,114,117,101]
  else if kind=2 then [102,97,108,115,101]
  else if kind=9 then []
  else if kind=10 then [33]++dA l 0 4
  else if kind=11 then dA l 0 3++([32,38,32]++dA l 1 4)
  else if kind=12 then dA l 0 2++([32,124,32]++dA l 1 3)
  else if kind=13 then dA l 0 2++([32,45,62,32]++dA l 1 1)
  else if 14<=kind then eO fD kind++([32]++((if 16<=kind then l5 n++[32] else [])++(aO binds++([32,40]++(dA l 0 0++[41])))))
  else []:=by
 rw[bL];intro t u r h;cases h
theorem l9(kind:Int)(name:Bs)(n:Int)(t u:bH)(r:List bH)(binds:List aD)(l:List ae):bL (.mk kind name n (t::u::r) binds l)=
  if kind=1 then [116,114,117,101]
  else if kind=2 then [102,97,108,115,101]
  else if kind=9 then(bC t++([32]++(name++([32]++bC u))))
  else if kind=10 then [33]++dA l 0 4
  else if kind=11 then dA l 0 3++([32,38,32]++dA l 1 4)
  else if kind=12 then dA l 0 2++([32,124,32]++dA l 1 3)
  else if kind=13 then dA l 0 2++([32,45,62,32]++dA l 1 1)
  else if 14<=kind then eO fD kind++([32]++((if 16<=kind then l5 n++[32] else [])++(aO binds++([32,40]++(dA l 0 0++[41])))))
  else(eO gU kind++([40]++(bC t++([44,32]++(bC u++[41]))))):=by
 rw[bL]
def aN(f:ae)(least:Nat):Bs:=if 0<dm f.kind/\dm f.kind<least then [40]++(bL f++[41]) else bL f
theorem si:∀(l:List ae) (i least:Nat) (h:i<l.length),dA l i least=aN l[i] least
 |f::_,0,least,_=>by rw[dA];rfl
 |_::r,i+1,least,h=>by rw[dA,si r i least (by simpa using h)];rfl
def dx(f:ae):Bs×Int:=if aM f≠0 then([],aM f) else if 16384<(bL f).length then([],2) else(bL f,0)
def LH(s:Bs):Bool:=iJ s&&!(dG.contains s)
inductive Rs (α:Type) where
 |ok (a:α) (l:List Tok)
 |bad (at_:Nat)
def Rs.bind{α β:Type}:Rs α->(α->List Tok->Rs β)->Rs β
 | .ok a l,f=>f a l
 | .bad n,_=>.bad n
def PR:List Tok->Rs Bs
 |[]=>.bad 0
 |t::r=>if t.kind=1/\dG.contains t.text=false then .ok t.text r else .bad t.at_
inductive NG:ae->Prop where
 |const (k:Int) (h:k=1∨k=2):NG (.mk k [] 0 [] [] [])
 |atom (k:Int) (a b:Bs) (h1:3<=k) (h2:k<=8) (ha:aR a=true) (hb:aR b=true):NG (.mk k [] 0 [⟨2,a,0⟩,⟨2,b,0⟩] [] [])
 |cmp (s:Bs) (t u:bH) (hs:cmpL.contains s=true) (ht:aA t=true) (hu:aA u=true):NG (.mk 9 s 0 [t,u] [] [])
 |not (g:ae):NG (.mk 10 [] 0 [] [] [g])
 |two (k:Int) (g h:ae) (h1:11<=k) (h2:k<=13):NG (.mk k [] 0 [] [] [g,h])
 |FP (k n:Int) (b:aD) (bs:List aD) (g:ae) (h1:14<=k) (h2:k<=17) (hn:0<=n) (hm:n<=1099511627776) (hz:k<=15->n=0) (hl:bs.length<=5) (hb:aL b=true) (hbs:bs.all aL=true):NG (.mk k [] n [] (b::bs) [g])
theorem yn{l:List α}(h:l.length=0):l=[]:=List.length_eq_zero_iff.1 h
theorem vK{l:List α}(h:l.length=2):∃a b,l=[a,b]:=by
 match l,h with
 |[a,b],_=>exact⟨a,b,rfl⟩
theorem NG.of(h:aH f=true):NG f:=by
 obtain⟨kind,name,n,terms,binds,l⟩:=f;rw[jD,ll,Bool.and_eq_true] at h;obtain⟨h,h6⟩:=h;simp only[Bool.and_eq_true,Bool.or_eq_true,List.isEmpty_iff,decide_eq_true_eq,beq_iff_eq] at h;obtain⟨⟨⟨⟨h1,h2⟩,h3⟩,h4⟩,h5⟩:=h;have hk:1<=kind/\kind<=17:=by
  unfold dW at h1;by_cases hc:kind<1∨17<kind
  ·rw[if_pos hc] at h1;cases h1
  ·omega
 have hna:¬kind=9->name=[]:=fun hh=>h5.resolve_right hh;by_cases hq:14<=kind
 ·have ha:bZ kind=false:=by simp[bZ];omega
  have hqk:cZ kind=true:=by simp[cZ];omega
  have ht:terms=[]:=h2.resolve_right (by simp[ha]);have hl:l.length=1:=by
   unfold dW at h1;rw[if_neg (by omega),if_neg (by omega),if_neg (by omega),if_neg (by omega)] at h1;simpa using h1.symm
  rw[if_neg (by omega),ha,if_neg (by simp),if_pos hqk] at h6;simp only[Bool.and_eq_true,decide_eq_true_eq,dn] at h6;obtain⟨⟨⟨h7,h8⟩,h9⟩,h10,h11⟩:=h6;obtain⟨g,rfl⟩:=List.length_eq_one_iff.1 hl;cases binds with
  |nil=>simp at h7
  |cons b bs=>
   simp only[List.all_cons,Bool.and_eq_true] at h9;subst ht;rw[hna (by omega)];exact .FP kind n b bs g hq hk.2 h10 h11 (fun h15=>h4.resolve_right (by simp[dL];omega)) (by simpa using h8) h9.1 h9.2
 have hqk:cZ kind=false:=by simp[cZ];omega
 have hb:binds=[]:=h3.resolve_right (by simp[hqk]);have hn:n=0:=h4.resolve_right (by simp[dL];omega);subst hb hn;by_cases ha:3<=kind/\kind<=9
 ·have hak:bZ kind=true:=by simp[bZ];omega
  have hl:l=[]:=by
   unfold dW at h1;rw[if_neg (by omega),if_pos (by omega)] at h1;exact yn (by simpa using h1.symm)
  subst hl;by_cases h9:kind=9
  ·subst h9;by_cases hc:cmpL.contains name=false
   ·rw[if_pos ⟨rfl,hc⟩] at h6;cases h6
   ·rw[if_neg (fun hh=>hc hh.2),if_pos hak] at h6;simp only[Bool.and_eq_true,decide_eq_true_eq] at h6;obtain⟨t,u,rfl⟩:∃t u,terms=[t,u]:=vK h6.1;simp only[List.all_cons,List.all_nil,Bool.and_eq_true] at h6;exact .cmp name t u (by simpa using hc) h6.2.1.1 h6.2.2.1.1
  ·rw[if_neg (fun hh=>h9 hh.1),if_pos hak] at h6;simp only[Bool.and_eq_true,decide_eq_true_eq] at h6;obtain⟨t,u,rfl⟩:∃t u,terms=[t,u]:=vK h6.1;simp only[List.all_cons,List.all_nil,Bool.and_eq_true,Bool.or_eq_true,decide_eq_true_eq,h9,false_or] at h6;obtain⟨_,⟨h7,h8⟩,⟨h10,h11⟩,_⟩:=h6;have key:∀x:bH,aA x=true->x.kind=2->∃a,x=⟨2,a,0⟩/\aR a=true:=by
    rintro⟨k,a,m⟩ hx hk2;dsimp only at hk2;subst hk2;unfold aA at hx;dsimp only at hx;rw[if_neg (by decide)] at hx;simp only[Bool.and_eq_true,decide_eq_true_eq] at hx;exact⟨a,by rw[hx.2],hx.1.2⟩
   obtain⟨a,rfl,ha'⟩:=key _ h7 h8;obtain⟨b,rfl,hb'⟩:=key _ h10 h11;rw[hna h9];exact .atom kind a b ha.1 (by omega) ha' hb'
 have hak:bZ kind=false:=by simp[bZ];omega
 have ht:terms=[]:=h2.resolve_right (by simp[hak]);subst ht;rw[hna (by omega)];by_cases h12:kind<=2
 ·have hl:l=[]:=by
   unfold dW at h1;rw[if_neg (by omega),if_pos (by omega)] at h1;exact yn (by simpa using h1.symm)
  subst hl;exact .const kind (by omega)
 by_cases h10:kind=10
 ·subst h10;have hl:l.length=1:=by
   unfold dW at h1;rw[if_neg (by omega),if_neg (by omega),if_pos rfl] at h1;simpa using h1.symm
  obtain⟨g,rfl⟩:=List.length_eq_one_iff.1 hl;exact .not g
 ·have hl:l.length=2:=by
   unfold dW at h1;rw[if_neg (by omega),if_neg (by omega),if_neg h10,if_pos (by omega)] at h1;simpa using h1.symm
  obtain⟨g,h,rfl⟩:=vK hl;exact .two kind g h (by omega) (by omega)
def wf(f:ae):Prop:=(aJ f).all aH=true
theorem F4:∀l:List ae,(dU l).all aH=true↔ ∀g∈l,(aJ g).all aH=true
 |[]=>by simp[dU]
 |g::r=>by
  rw[dU,List.all_append,Bool.and_eq_true,F4 r];simp only[List.mem_cons,forall_eq_or_imp]
theorem CV{kind:Int}{name:Bs}{terms:List bH}{binds:List aD}{l:List ae}:wf (.mk kind name n terms binds l)↔aH (.mk kind name n terms binds l)=true/\∀g∈l,wf g:=by
 unfold wf;rw[aJ,List.all_cons,Bool.and_eq_true];refine and_congr_right (fun _=>?_);exact F4 l
theorem Je(h:wf f):aH f=true:=by
 obtain⟨kind,name,n,terms,binds,l⟩:=f;exact(CV.1 h).1
theorem MS(h:wf (.mk 10 [] 0 [] [] [g])):wf g:=(CV.1 h).2 g (by simp)
theorem zS{h:ae}(w:wf (.mk k [] 0 [] [] [g,h])):wf g/\wf h:=⟨(CV.1 w).2 g (by simp),(CV.1 w).2 h (by simp)⟩
theorem CW{bs:List aD}(w:wf (.mk k [] n [] bs [g])):wf g:=(CV.1 w).2 g (by simp)
theorem ic(h:aM f=0):wf f/\f.size<=256/\f.depth<=24:=by
 unfold aM at h;unfold wf;cases hb:(aJ f).all aH with
 |false=>rw[hb] at h;simp at h
 |true=>
  rw[hb,if_neg (by simp)] at h;split at h
  ·cases h
  ·exact⟨rfl,by omega,by omega⟩
theorem E9{P:ae->Prop}(const:∀k:Int,k=1∨k=2->P (.mk k [] 0 [] [] []))(atom:∀(k:Int) (a b:Bs),3<=k->k<=8->aR a=true->aR b=true->P (.mk k [] 0 [⟨2,a,0⟩,⟨2,b,0⟩] [] []))(cmp:∀(s:Bs) (t u:bH),cmpL.contains s=true->aA t=true->aA u=true->P (.mk 9 s 0 [t,u] [] []))(not:∀g:ae,wf g->P g->P (.mk 10 [] 0 [] [] [g]))(two:∀(k:Int) (g h:ae),11<=k->k<=13->wf g->wf h->P g->P h->P (.mk k [] 0 [] [] [g,h]))(FP:∀(k n:Int) (b:aD) (bs:List aD) (g:ae),14<=k->k<=17->0<=n->n<=1099511627776->(k<=15->n=0)->bs.length<=5->aL b=true->bs.all aL=true->wf g->P g->P (.mk k [] n [] (b::bs) [g])):
  ∀f,wf f->P f:=by
 have key:∀N (f:ae),f.size<=N->wf f->P f:=by
  intro N
  induction N with
  |zero=>intro f h;have:=f.size_pos;omega
  |succ N ih=>
   intro f hN hw;cases NG.of (Je hw) with
   |const k h=>exact const k h
   |atom k a b h1 h2 ha hb=>exact atom k a b h1 h2 ha hb
   |cmp s t u hs ht hu=>exact cmp s t u hs ht hu
   |not g=>
    simp only[ae.size,bF] at hN;exact not g (MS hw) (ih g (by omega) (MS hw))
   |two k g h h1 h2=>
    simp only[ae.size,bF] at hN;exact two k g h h1 h2 (zS hw).1 (zS hw).2 (ih g (by omega) (zS hw).1) (ih h (by omega) (zS hw).2)
   |FP k n b bs g h1 h2 hn hm hz hl hb hbs=>
    simp only[ae.size,bF] at hN;exact FP k n b bs g h1 h2 hn hm hz hl hb hbs (CW hw) (ih g (by omega) (CW hw))
 exact fun f hw=>key f.size f (Nat.le_refl _) hw
structure Ins where
 rule:Int
 binds:List Int
def bY(s:aF)(sort at_:Int):Bs:=if at_<0 then [] else((ai s sort)[at_.toNat]?).getD []
def iQ(s:aF):List aD->List Int->Option (List Bs)
 |[],_=>some []
 |b::r,q=>match q with
  |[]=>none
  |i::q=>if bY s b.sort i=[] then none else(iQ s r q).map (fun l=>bY s b.sort i::l)
def ze(s:aF)(l:List bq)(i:Ins):Option (List Bs):=
 if i.rule<0 then none else match l[i.rule.toNat]? with
  |none=>none
  |some r=>if i.binds.length≠r.each.length then none else iQ s r.each i.binds
def lJ(m:List (Bs×Bs))(name:Bs):Option Bs:=(m.reverse.find? (fun p=>p.1==name)).map Prod.snd
def lD(m:List (Bs×Bs))(t:bH):bH:=match lJ m t.name with|some x=>⟨t.kind,x,t.n⟩|none=>t
mutual
def gm(m:List (Bs×Bs)):ae->ae
 | .mk k s n t b l=>.mk k s n (t.map (lD m)) b (xK m l)
def xK(m:List (Bs×Bs)):List ae->List ae
 |[]=>[]
 |f::r=>gm m f::xK m r
end
def eD(p:Bs×Bs):Bs:=p.1++([32,61,32]++p.2)
def eX:List (Bs×Bs)->Bs
 |[]=>[]
 |[p]=>eD p
 |p::q::r=>eD p++([44,32]++eX (q::r))
def gK(name:Bs)(m:List (Bs×Bs)):Bs:=if m.isEmpty then name else name++([32,40]++(eX m++[41]))
def jh(s:aF)(l:List bq)(i:Ins):Bs×Int:=
 match ze s l i,l[i.rule.toNat]? with
 |some ns,some r=>
  if(dx (gm ((r.each.map aD.name).zip ns) r.body)).2≠0 then([],(dx (gm ((r.each.map aD.name).zip ns) r.body)).2)
  else(gK r.name ((r.each.map aD.name).zip ns)++([58,32]++(dx (gm ((r.each.map aD.name).zip ns) r.body)).1),0)
 |_,_=>([],1)
def okF(s:aF)(l:List bq):Int:=if bE s≠0 then bE s else(iI l).2
def ko(s:aF)(l:List bq)(i:Ins):Bs×Int:=if okF s l≠0 then([],okF s l) else jh s l i
def jg(r:bq):Bs:=(if r.hard then [104,97,114,100] else [115,111,102,116,32]++l5 r.weight)++([32]++(r.name++[58]))
def fO(s:aF)(l:List bq):List Ins->Int
 |[]=>0
 |i::x=>if(jh s l i).2≠0 then(jh s l i).2 else fO s l x
def mE(s:aF)(l:List bq)(x:List Ins)(k:Nat)(r:bq):List Bs:=
 if x.any (fun i=>decide (i.rule=(k:Int))) then jg r::(x.filter (fun i=>decide (i.rule=(k:Int)))).map (fun i=>[32,32]++(jh s l i).1) else []
def eU(s:aF)(l:List bq)(x:List Ins):Nat->List bq->List Bs
 |_,[]=>[]
 |k,r::q=>mE s l x k r++eU s l x (k+1) q
def dR(s:aF)(l:List bq)(x:List Ins):List Bs×Int:=if fO s l x≠0 then([],fO s l x) else(eU s l x 0 l,0)
def rQ(s:aF)(l:List bq)(x:List Ins):List Bs×Int:=if okF s l≠0 then([],okF s l) else dR s l x
def iV(x:List Ins)(l:List Int):List Ins:=l.filterMap (fun k=>x[k.toNat]?)
def jf(x:List Ins)(l:List Int):Bool:=l.any (fun k=>decide (k<0)||decide ((x.length:Int)<=k))
def bz(s:aF)(l:List bq)(x:List Ins)(ahead:Bs):List (List Int)->List Bs×Int
 |[]=>([],0)
 |p::r=>if(dR s l (iV x p)).2≠0 then([],(dR s l (iV x p)).2)
  else if(bz s l x ahead r).2≠0 then([],(bz s l x ahead r).2) else((ahead::(dR s l (iV x p)).1)++(bz s l x ahead r).1,0)
def gG:Bs:=[116,104,101,115,101,32,99,97,110,39,116,32,98,101,32,116,111,103,101,116,104,101,114,58]
def fu:Bs:=[119,105,116,104,111,117,116,32,116,104,101,115,101,32,116,104,101,114,101,32,105,115,32,97,32,119,101,101,107,58]
def jd:Bs:=[116,104,97,116,32,105,115,32,97,108,108]
def l8:Bs:=[116,104,101,114,101,32,109,97,121,32,98,101,32,109,111,114,101]
structure Qt where
 kind:Int
 iC:List (List Int)
 fixes:List (List Int)
def kF(yes out kind:Int):Option Bs:=if kind=yes then some jd else if kind=out then some l8 else none
def CX(yes out:Int)(s:aF)(l:List bq)(x:List Ins)(y:Qt):List Bs×Int:=
 if okF s l≠0 then([],okF s l)
 else match kF yes out y.kind with
  |none=>([],1)
  |some last=>if y.iC.any (jf x)||y.fixes.any (jf x) then([],1)
   else if(bz s l x gG y.iC).2≠0 then([],(bz s l x gG y.iC).2)
   else if(bz s l x fu y.fixes).2≠0 then([],(bz s l x fu y.fixes).2)
   else((bz s l x gG y.iC).1++((bz s l x fu y.fixes).1++[last]),0)
end Go.aa
