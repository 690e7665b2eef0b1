/- Parts of the proof. -/
import Derived.Test.YtncnnbmeacpboaaGreatDoorQ07
import Derived.Test.YtncnnbmeacpboaaGreatDoorLIs1
set_option linter.unusedVariables false
set_option linter.unusedSimpArgs false
namespace Go.aa
variable {m:List (Bs×Bs)} {n s:Bs} {f:ae} {α:Type} {l r p q a b c:List Tok}
theorem pq:∀(l:List bq) (met:List Bs) (k:Nat),(fM met l k).2=0->(∀r∈l,dK r=0/\r.name∉met)/\(l.map bq.name).Nodup
 |[],_,_,_=>by simp
 |r::l,met,k,h=>by
  rw[fM] at h;by_cases h1:dK r=0
  ·rw[if_neg (by simpa using h1)] at h;by_cases h2:met.contains r.name=true
   ·rw[if_pos h2] at h;cases h
   ·rw[if_neg h2] at h;obtain⟨g1,g2⟩:=pq l _ _ h;have h3:r.name∉met:=by simpa using h2
    refine⟨?_,?_⟩
    ·intro x hx;rcases List.mem_cons.1 hx with rfl|hx
     ·exact⟨h1,h3⟩
     ·have g:=g1 x hx;simp only[List.mem_append,not_or] at g;exact⟨g.1,g.2.1⟩
    ·rw[List.map_cons,List.nodup_cons];refine⟨?_,g2⟩;intro hm;obtain⟨x,hx,e⟩:=List.mem_map.1 hm;have g:=(g1 x hx).2;simp only[List.mem_append,not_or,List.mem_singleton] at g;exact g.2 e
  ·rw[if_pos h1] at h;exact absurd h h1
theorem nN:∀(l met:List Bs),ax met l=true->(∀x∈l,df x=true/\x∉met)/\l.Nodup
 |[],_,_=>by simp
 |x::r,met,h=>by
  rw[ax] at h;simp only[Bool.and_eq_true,Bool.not_eq_true',List.contains_eq_mem,decide_eq_false_iff_not] at h;obtain⟨⟨h1,h2⟩,h3⟩:=h;obtain⟨g1,g2⟩:=nN r _ h3;refine⟨?_,?_⟩
  ·intro y hy;rcases List.mem_cons.1 hy with rfl|hy
   ·exact⟨h2,h1⟩
   ·have g:=g1 y hy;simp only[List.mem_append,not_or] at g;exact⟨g.1,g.2.1⟩
  ·rw[List.nodup_cons];refine⟨?_,g2⟩;intro hm;have g:=(g1 x hm).2;simp at g
theorem NS{s:aF}{sort at_:Int}(h:bY s sort at_≠[]):0<=at_/\(ai s sort)[at_.toNat]?=some (bY s sort at_):=by
 by_cases h0:at_<0
 ·exact absurd (by unfold bY;rw[if_pos h0]) h
 refine⟨by omega,?_⟩;have e:bY s sort at_=((ai s sort)[at_.toNat]?).getD []:=by unfold bY;rw[if_neg h0]
 rw[e] at h ⊢;cases k:(ai s sort)[at_.toNat]? with
 |none=>rw[k] at h;exact absurd rfl h
 |some x=>rfl
theorem FB{s:aF}:∀(b:List aD) (q:List Int) (ns:List Bs),iQ s b q=some ns->ns.length=b.length
 |[],q,ns,h=>by simp[iQ] at h;simp[<-h]
 |b::r,[],ns,h=>by simp[iQ] at h
 |b::r,i::q,ns,h=>by
  rw[iQ] at h;split at h
  ·cases h
  ·cases k:iQ s r q with
   |none=>rw[k] at h;cases h
   |some l=>rw[k] at h;injection h with h;rw[<-h];simp[FB r q l k]
theorem DW(m:List (Bs×Bs))(p:Bs×Bs)(n:Bs):lJ (m++[p]) n=if p.1==n then some p.2 else lJ m n:=by
 unfold lJ;rw[List.reverse_append,List.reverse_singleton,List.singleton_append,List.find?_cons];cases h:p.1==n<;>simp
theorem DV(h:∀p∈m,p.1≠n):lJ m n=none:=by
 unfold lJ;rw[List.find?_eq_none.2 (by intro p hp;simpa using h p (List.mem_reverse.1 hp))];rfl
def mW(m:List (Bs×Bs))(t:bH):bH:=if t.kind=1 then t else lD m t
mutual
def fC(m:List (Bs×Bs)):ae->ae
 | .mk k s n t b l=>.mk k s n (t.map (mW m)) b (yC m l)
def yC(m:List (Bs×Bs)):List ae->List ae
 |[]=>[]
 |f::r=>fC m f::yC m r
end
theorem OS(hm:∀p∈m,p.1≠[]){t:bH}(h:aA t=true):mW m t=lD m t:=by
 unfold mW;by_cases h1:t.kind=1
 ·rw[if_pos h1];unfold aA at h;rw[if_pos h1] at h;simp only[Bool.and_eq_true,List.isEmpty_iff] at h;unfold lD;rw[h.1,DV hm]
 ·rw[if_neg h1]
theorem zi(h:aH f=true):∀t∈f.terms,aA t=true:=by
 cases f with
 |mk kind name n terms binds l=>
  rw[jD,ll] at h;simp only[Bool.and_eq_true] at h;obtain⟨⟨⟨⟨⟨_,h2⟩,_⟩,_⟩,_⟩,h6⟩:=h;intro t ht;have ha:bZ kind=true:=by
   cases terms with
   |nil=>cases ht
   |cons a r=>simpa using h2
  by_cases h9:kind=9/\cmpL.contains name=false
  ·rw[if_pos h9] at h6;cases h6
  ·rw[if_neg h9,if_pos ha] at h6;simp only[Bool.and_eq_true,List.all_eq_true] at h6;exact(h6.2 t ht).1
mutual
theorem zL{m:List (Bs×Bs)}(hm:∀p∈m,p.1≠[]):∀f:ae,(aJ f).all aH=true->fC m f=gm m f
 | .mk kind name n terms binds l,h=>by
  rw[aJ,List.all_cons,Bool.and_eq_true] at h;have e:terms.map (mW m)=terms.map (lD m):=List.map_congr_left (fun t ht=>OS hm (zi (f:=.mk kind name n terms binds l) h.1 t ht));rw[fC,gm,FQ hm l h.2,e]
theorem FQ{m:List (Bs×Bs)}(hm:∀p∈m,p.1≠[]):∀l:List ae,(dU l).all aH=true->yC m l=xK m l
 |[],_=>rfl
 |f::r,h=>by
  rw[dU,List.all_append,Bool.and_eq_true] at h;rw[yC,xK,zL hm f h.1,FQ hm r h.2]
end
def lg(s:aF):List aD->List Int->Bool
 |b::r,i::q=>decide (0<=i)&&decide (i<(bA s b.sort:Int))&&lg s r q
 |_,_=>true
def vN(s:aF)(l:List bq)(i:Ins):Bool:=
 decide (0<=i.rule)&&(match l[i.rule.toNat]? with|none=>false|some r=>decide (i.binds.length=r.each.length)&&lg s r.each i.binds)
def bG(s:aF):List aD->List Int->List Bs
 |b::r,i::q=>bY s b.sort i::bG s r q
 |_,_=>[]
theorem D9{s:aF}(h:bE s=0)(sort:Int):[]∉ai s sort:=by
 have h0:(ax [] (ai s 1)&&ax [] (ai s 2)&&ax [] (ai s 3)&&ax [] (ai s 4)&&ax [] (ai s 5))=true:=by
  cases e:(ax [] (ai s 1)&&ax [] (ai s 2)&&ax [] (ai s 3)&&ax [] (ai s 4)&&ax [] (ai s 5)) with
  |true=>rfl
  |false=>unfold bE at h;rw[e] at h;cases h
 simp only[Bool.and_eq_true] at h0;obtain⟨⟨⟨⟨k1,k2⟩,k3⟩,k4⟩,k5⟩:=h0;have one:∀z:Int,ax [] (ai s z)=true->[]∉ai s z:=fun z k hx=>absurd ((nN _ _ k).1 _ hx).1 (by decide);by_cases e1:sort=1
 ·rw[e1];exact one 1 k1
 by_cases e2:sort=2
 ·rw[e2];exact one 2 k2
 by_cases e3:sort=3
 ·rw[e3];exact one 3 k3
 by_cases e4:sort=4
 ·rw[e4];exact one 4 k4
 by_cases e5:sort=5
 ·rw[e5];exact one 5 k5
 unfold ai;rw[if_neg e1,if_neg e2,if_neg e3,if_neg e4,if_neg e5];split
 ·decide
 split
 ·decide
 ·simp
theorem Fz{s:aF}(h:bE s=0)(sort i:Int):bY s sort i=[]↔ ¬(0<=i/\i<(bA s sort:Int)):=by
 constructor
 ·rintro e ⟨h0,h1⟩;unfold bY at e;rw[if_neg (by omega)] at e;have hl:i.toNat<(ai s sort).length:=by unfold bA at h1;omega
  rw[List.getElem?_eq_getElem hl] at e;exact D9 h sort (by rw[<-show(ai s sort)[i.toNat]=[] from e];exact List.getElem_mem hl)
 ·intro k;by_cases h0:i<0
  ·unfold bY;rw[if_pos h0]
  ·unfold bY;rw[if_neg h0,List.getElem?_eq_none (by unfold bA at k;omega)];rfl
theorem FC{s:aF}(h:bE s=0):∀(b:List aD) (q:List Int),q.length=b.length->iQ s b q=if lg s b q=true then some (bG s b q) else none
 |[],[],_=>rfl
 |[],i::q,e=>by simp at e
 |b::r,[],e=>by simp at e
 |b::r,i::q,e=>by
  rw[iQ,lg,bG,FC h r q (by simpa using e)];by_cases k:bY s b.sort i=[]
  ·rw[if_pos k];have g:=(Fz h b.sort i).1 k;have:(decide (0<=i)&&decide (i<(bA s b.sort:Int)))=false:=by
    cases hh:(decide (0<=i)&&decide (i<(bA s b.sort:Int))) with
    |false=>rfl
    |true=>simp only[Bool.and_eq_true,decide_eq_true_eq] at hh;exact absurd hh g
   rw[this];simp
  ·rw[if_neg k];have g:0<=i/\i<(bA s b.sort:Int):=Classical.byContradiction fun hh=>k ((Fz h b.sort i).2 hh);have:(decide (0<=i)&&decide (i<(bA s b.sort:Int)))=true:=by simp only[Bool.and_eq_true,decide_eq_true_eq];exact g
   rw[this,Bool.true_and];cases lg s r q<;>simp
theorem Ba{s:aF}(h:bE s=0)(l:List bq)(i:Ins):(vN s l i=true->∃r,0<=i.rule/\l[i.rule.toNat]?=some r/\i.binds.length=r.each.length/\ze s l i=some (bG s r.each i.binds))/\(vN s l i=false->ze s l i=none):=by
 unfold vN ze;by_cases h0:i.rule<0
 ·rw[if_pos h0,show decide (0<=i.rule)=false by simp;omega,Bool.false_and];exact⟨(fun k=>by cases k),fun _=>rfl⟩
 rw[if_neg h0,show decide (0<=i.rule)=true by simp;omega,Bool.true_and];cases k:l[i.rule.toNat]? with
 |none=>exact⟨(fun k=>by cases k),fun _=>rfl⟩
 |some r=>
  by_cases e:i.binds.length=r.each.length
  ·simp only[ne_eq,e,not_true_eq_false,if_false,decide_true,Bool.true_and];rw[FC h _ _ e];cases g:lg s r.each i.binds with
   |true=>exact⟨fun _=>⟨r,by omega,rfl,rfl,by rw[if_pos rfl]⟩,(fun k=>by cases k)⟩
   |false=>exact⟨(fun k=>by cases k),fun _=>by simp⟩
  ·simp only[e,ne_eq,not_false_eq_true,if_true,decide_false,Bool.false_and];exact⟨(fun k=>by cases k),fun _=>trivial⟩
theorem wy(m:List (Bs×Bs)):∀l:List ae,xK m l=l.map (gm m)
 |[]=>rfl
 |f::r=>by rw[xK,wy m r,List.map_cons]
mutual
theorem yu(m:List (Bs×Bs)):∀f:ae,aJ (gm m f)=(aJ f).map (gm m)
 | .mk kind name n terms binds l=>by rw[gm,aJ,aJ,List.map_cons,vU m l,gm]
theorem vU(m:List (Bs×Bs)):∀l:List ae,dU (xK m l)=(dU l).map (gm m)
 |[]=>rfl
 |f::r=>by rw[xK,dU,dU,List.map_append,yu m f,vU m r]
end
mutual
theorem CB(m:List (Bs×Bs)):∀f:ae,(gm m f).size=f.size
 | .mk kind name n terms binds l=>by rw[gm,ae.size,ae.size,vw m l]
theorem vw(m:List (Bs×Bs)):∀l:List ae,bF (xK m l)=bF l
 |[]=>rfl
 |f::r=>by rw[xK,bF,bF,CB m f,vw m r]
end
theorem Hg{x:Bs}(h:lJ m n=some x):∃p∈m,p.2=x:=by
 unfold lJ at h;obtain⟨p,hp,e⟩:=Option.map_eq_some_iff.1 h;exact⟨p,List.mem_reverse.1 (List.mem_of_find?_eq_some hp),e⟩
theorem Me{n:Nat}(hm:∀p∈m,p.2.length<=n){t:bH}(ht:t.name.length<=n):(lD m t).name.length<=n:=by
 unfold lD;split
 ·rename_i x e;obtain⟨p,hp,e⟩:=Hg e;rw[<-e];exact hm p hp
 ·exact ht
theorem Im(m:List (Bs×Bs))(f:ae):(gm m f).kind=f.kind/\(gm m f).name=f.name/\(gm m f).n=f.n/\(gm m f).terms=f.terms.map (lD m)/\(gm m f).binds=f.binds/\(gm m f).l=f.l.map (gm m):=by
 cases f;rw[gm,wy];exact⟨rfl,rfl,rfl,rfl,rfl,rfl⟩
def FI(s:aF)(l:List bq)(i:Ins):Bs×Int:=
 if okF s l≠0 then([],okF s l) else if vN s l i=false then([],1) else
  match l[i.rule.toNat]? with
  |none=>([],1)
  |some r=>
   if(dx (fC ((r.each.map aD.name).zip (bG s r.each i.binds)) r.body)).2≠0 then([],(dx (fC ((r.each.map aD.name).zip (bG s r.each i.binds)) r.body)).2)
   else(gK r.name ((r.each.map aD.name).zip (bG s r.each i.binds))++([58,32]++(dx (fC ((r.each.map aD.name).zip (bG s r.each i.binds)) r.body)).1),0)
theorem jF{s:aF}{l:List bq}(h:okF s l=0):bE s=0/\(∀r∈l,dK r=0)/\(l.map bq.name).Nodup:=by
 have hs:bE s=0:=by
  unfold okF at h;split at h
  ·rename_i g;exact absurd h g
  ·rename_i g;simpa using g
 have hr:(iI l).2=0:=by unfold okF at h;rw[if_neg (by simp[hs])] at h;exact h
 obtain⟨g1,g2⟩:=pq l [] 0 hr;exact⟨hs,fun r h=>(g1 r h).1,g2⟩
theorem lW{r:bq}(h:dK r=0):aL ⟨r.name,1⟩=true/\r.each.all aL=true/\aM r.body=0:=by
 unfold dK at h;by_cases g:aL ⟨r.name,1⟩=false∨r.weight<(if r.hard then 0 else 1)∨(if r.hard then 0 else 1000)<r.weight∨6<r.each.length∨r.each.all aL=false
 ·rw[if_pos g] at h;cases h
 ·rw[if_neg g] at h;have g:=not_or.1 g;have a:=g.1;have b:=(not_or.1 (not_or.1 (not_or.1 g.2).2).2).2;refine⟨by simpa using a,by simpa using b,?_⟩;by_cases k:aM r.body=0
  ·exact k
  ·rw[if_pos k] at h;exact absurd h k
theorem mR(h:aM f=0):(aJ f).all aH=true:=by
 unfold aM at h;cases e:(aJ f).all aH with
 |true=>rfl
 |false=>rw[e,if_pos rfl] at h;cases h
theorem yZ{b:aD}(h:aL b=true):b.name≠[]:=by
 intro e;unfold aL at h;rw[e] at h;simp[aR] at h
theorem nT{l:List aD}(h:l.all aL=true)(ns:List Bs):∀p∈(l.map aD.name).zip ns,p.1≠[]:=by
 intro p hp;obtain⟨b,hb,e⟩:=List.mem_map.1 (List.of_mem_zip (show(p.1,p.2)∈_ from hp)).1;rw[<-e];exact yZ (List.all_eq_true.1 h b hb)
theorem K8(s:aF)(l:List bq)(i:Ins):FI s l i=ko s l i:=by
 unfold FI ko;by_cases h0:okF s l=0
 ·rw[if_neg (show ¬okF s l≠0 by simpa using h0),if_neg (show ¬okF s l≠0 by simpa using h0)];obtain⟨hs,hr,_⟩:=jF h0;obtain⟨m1,m2⟩:=Ba hs l i;cases hm:vN s l i with
  |false=>rw[if_pos rfl];unfold jh;rw[m2 hm]
  |true=>
   rw[if_neg (by decide)];obtain⟨r,_,e1,_,e2⟩:=m1 hm;unfold jh;rw[e1,e2];simp only;obtain⟨_,t2,t3⟩:=lW (hr r (List.mem_of_getElem? e1));rw[zL (nT t2 _) r.body (mR t3)]
 ·rw[if_pos h0,if_pos h0]
theorem Rs.bind_ok{β:Type}{x:Rs α}{f:α->List Tok->Rs β}{b:β}:x.bind f=.ok b l↔ ∃a m,x=.ok a m/\f a m=.ok b l:=by
 cases x with
 |ok a m=>
  constructor
  ·intro h;exact⟨a,m,rfl,h⟩
  ·rintro⟨_,_,h,h2⟩;cases h;exact h2
 |bad n=>
  constructor
  ·intro h;cases h
  ·rintro⟨_,_,h,_⟩;cases h
def PT(l r:List Tok):Prop:=∃p,p≠[]/\(∀t∈p,t.kind≠4)/\l=p++r
def pJ(l r:List Tok):Prop:=∃p,(∀t∈p,t.kind≠4)/\l=p++r
theorem PT.len(h:PT l r):r.length<l.length:=by
 obtain⟨p,hp,_,rfl⟩:=h;have:=List.length_pos_iff.2 hp;rw[List.length_append];omega
theorem pJ.len(h:pJ l r):r.length<=l.length:=by
 obtain⟨p,_,rfl⟩:=h;rw[List.length_append];omega
theorem pJ.refl(l:List Tok):pJ l l:=⟨[],by simp,rfl⟩
theorem vS(h:∀t∈p,t.kind≠4)(k:∀t∈q,t.kind≠4):∀t∈p++q,t.kind≠4:=fun t ht=>(List.mem_append.1 ht).elim (h t) (k t)
theorem PT.trans(h:PT a b)(k:pJ b c):PT a c:=by
 obtain⟨p,hp,h1,rfl⟩:=h;obtain⟨q,h2,rfl⟩:=k;exact⟨p++q,by simp[hp],vS h1 h2,by rw[List.append_assoc]⟩
theorem pJ.trans(h:pJ a b)(k:pJ b c):pJ a c:=by
 obtain⟨p,h1,rfl⟩:=h;obtain⟨q,h2,rfl⟩:=k;exact⟨p++q,vS h1 h2,by rw[List.append_assoc]⟩
theorem PT.one{t:Tok}(h:t.kind≠4)(r:List Tok):PT (t::r) r:=⟨[t],by simp,by simpa using h,rfl⟩
abbrev KT:=Int×Bs
def Is(ks:List KT)(l m:List Tok):Prop:=∃p,p.map kt=ks/\l=p++m
theorem Is.nil{m:List Tok}:Is [] l m↔l=m:=by
 constructor
 ·rintro⟨p,hp,rfl⟩;rw[List.map_eq_nil_iff] at hp;subst hp;rfl
 ·rintro rfl;exact⟨[],rfl,rfl⟩
theorem Is.cons{k:KT}{ks:List KT}{l m:List Tok}:Is (k::ks) l m↔ ∃t r,l=t::r/\kt t=k/\Is ks r m:=by
 constructor
 ·rintro⟨p,hp,rfl⟩;cases p with
  |nil=>cases hp
  |cons t q=>
   rw[List.map_cons,List.cons.injEq] at hp;exact⟨t,q++m,rfl,hp.1,q,hp.2,rfl⟩
 ·rintro⟨t,r,rfl,rfl,p,rfl,rfl⟩;exact⟨t::p,rfl,rfl⟩
theorem Is.app{a b:List KT}{m:List Tok}:Is (a++b) l m↔ ∃r,Is a l r/\Is b r m:=by
 constructor
 ·rintro⟨p,hp,rfl⟩;obtain⟨q,r,rfl,hq,hr⟩:=List.map_eq_append_iff.1 hp;exact⟨r++m,⟨q,hq,by rw[List.append_assoc]⟩,r,hr,rfl⟩
 ·rintro⟨r,⟨p,rfl,rfl⟩,q,rfl,rfl⟩;exact⟨p++q,by rw[List.map_append],by rw[List.append_assoc]⟩
theorem Is.one{k:KT}{m:List Tok}:Is [k] l m↔ ∃t,l=t::m/\kt t=k:=by
 rw[Is.cons];constructor
 ·rintro⟨t,r,rfl,h,h2⟩;rw[Is.nil] at h2;subst h2;exact⟨t,rfl,h⟩
 ·rintro⟨t,rfl,h⟩;exact⟨t,m,rfl,h,Is.nil.2 rfl⟩
theorem Is.name{m:List Tok}(h:Is [(1,s)] l m)(hs:dG.contains s=false):PR l=.ok s m:=by
 obtain⟨t,rfl,h1⟩:=Is.one.1 h;simp only[kt,Prod.mk.injEq] at h1;rw[PR,h1.1,h1.2,if_pos ⟨rfl,hs⟩]
theorem zk(s:Bs):aR s=LH s:=by
 cases s with
 |nil=>rfl
 |cons c r=>
  rw[aR,LH,iJ,Bool.eq_iff_iff];simp only[Bool.and_eq_true,decide_eq_true_eq,List.all_cons];have hc:aU c=true->(dX c=true↔97<=c.toNat):=by
   intro h;simp only[aU,dX,jS,Bool.or_eq_true,Bool.and_eq_true,decide_eq_true_eq,beq_iff_eq] at h ⊢;constructor
   ·exact fun h=>h.1
   ·intro h97;rcases h with(h|h)|h
    ·exact h
    ·omega
    ·omega
  constructor
  ·rintro⟨⟨⟨h1,h2⟩,h3,h4⟩,h5⟩;exact⟨⟨⟨(hc h3).2 h5,h3,h4⟩,h1⟩,h2⟩
  ·rintro⟨⟨⟨h1,h3,h4⟩,h5⟩,h2⟩;exact⟨⟨⟨h5,h2⟩,h3,h4⟩,(hc h3).1 h1⟩
def Sep(l:Bs):Prop:=∀c r,l=c::r->aU c=false
def Lx(s:Bs)(ks:List KT):Prop:=∀rest at_ acc,Sep rest->∃ts,ts.map kt=ks/\nP (s++rest) at_ acc=nP rest (at_+s.length) (acc++ts)
def Lz(s:Bs)(ks:List KT):Prop:=∀rest at_ acc,∃ts,ts.map kt=ks/\nP (s++rest) at_ acc=nP rest (at_+s.length) (acc++ts)
def qw(s:Bs):Prop:=∃c r,s=c::r/\aU c=false
theorem Lz.nil:Lz [] []:=fun rest at_ acc=>⟨[],rfl,by simp⟩
theorem qw.app(h:qw s)(r:Bs):qw (s++r):=by obtain⟨c,q,rfl,hc⟩:=h;exact⟨c,q++r,rfl,hc⟩
theorem Sep.nil:Sep []:=fun _ _ h=>by cases h
theorem Lz.app{u:Bs}{ks js:List KT}(h:Lz s ks)(k:Lz u js):Lz (s++u) (ks++js):=fun rest at_ acc=>by
 obtain⟨t1,h1,h2⟩:=h (u++rest) at_ acc;obtain⟨t2,h3,h4⟩:=k rest (at_+s.length) (acc++t1);exact⟨t1++t2,by rw[List.map_append,h1,h3],by rw[List.append_assoc,h2,h4,List.length_append,Nat.add_assoc,List.append_assoc]⟩
theorem FK{c:UInt8}{r rest:Bs}{k:Int}{at_:Nat}{acc:List Tok}(hs:s=c::r)(hw:su c=false)(hh:xY c=false)(hn:iR (s++rest)=(k,s,true)):
  ∃ts,ts.map kt=[(k,s)]/\nP (s++rest) at_ acc=nP rest (at_+s.length) (acc++ts):=by
 subst hs;rw[List.cons_append] at hn ⊢;refine⟨[⟨k,c::r,at_⟩],rfl,?_⟩;rw[Lp hw hh (by rw[hn]),hn];dsimp only;rw[<-List.cons_append,List.drop_left]
theorem IJ{y:Bs}(hs:s∈cmpL)(hy:y=[]∨∃r,y=32::r):iR (s++y)=(3,s,true):=by
 have hm:s∈jG:=by
  have:∀x∈cmpL,x∈jG:=by decide
  exact this s hs
 have hb:=EG s hm y hy;have hc:∃c r,s=c::r/\dX c=false/\jS c=false:=by
  have:∀x∈cmpL,∃c r,x=c::r/\dX c=false/\jS c=false:=by
   intro x hx;simp only[cmpL,List.mem_cons,List.not_mem_nil,or_false] at hx;rcases hx with rfl|rfl|rfl|rfl|rfl|rfl<;>exact⟨_,_,rfl,rfl,rfl⟩
  exact this s hs
 obtain⟨c,r,rfl,h1,h2⟩:=hc;rw[List.cons_append] at hb ⊢;rw[iR,if_neg (by rw[h1];simp),if_neg (by rw[h2];simp),hb];rfl
theorem Lz.op(hs:cmpL.contains s=true):Lz (s++[32]) [(3,s)]:=fun rest at_ acc=>by
 have hm:s∈cmpL:=by simpa using hs
 have hc:∃c r,s=c::r/\su c=false/\xY c=false:=by
  simp only[cmpL,List.mem_cons,List.not_mem_nil,or_false] at hm;rcases hm with rfl|rfl|rfl|rfl|rfl|rfl<;>exact⟨_,_,rfl,rfl,rfl⟩
 obtain⟨c,r,he,h1,h2⟩:=hc;obtain⟨t1,h3,h4⟩:=FK (rest:=32::rest) (at_:=at_) (acc:=acc) he h1 h2 (IJ hm (.inr ⟨rest,rfl⟩));refine⟨t1,h3,?_⟩;rw[List.append_assoc,List.cons_append,List.nil_append,h4,DX (by decide),List.length_append];rfl
theorem Q9{l:Bs}(h:Sep l):l=[]∨∃c r,l=c::r/\aU c=false:=by
 cases l with
 |nil=>exact .inl rfl
 |cons c r=>exact .inr ⟨c,r,rfl,h c r rfl⟩
theorem Lx.word(h:iJ s=true):Lx s [(1,s)]:=fun rest at_ acc hr=>by
 cases s with
 |nil=>cases h
 |cons c r=>
  have h0:=h;rw[iJ] at h;simp only[Bool.and_eq_true,decide_eq_true_eq] at h;have hc:97<=c.toNat:=by
   have:=h.1.1;simp only[dX,Bool.and_eq_true,decide_eq_true_eq] at this;exact this.1
  have ht:(c::(r++rest)).takeWhile aU=c::r:=pz aU (c::r) rest h.1.2 (Q9 hr);refine FK (c:=c) (r:=r) rfl ?_ ?_ ?_
  ·simp[su];omega
  ·simp[xY];omega
  ·rw[List.cons_append,iR,if_pos h.1.1,ht,h0]
theorem Lx.named(h:aR s=true):Lx s [(1,s)]:=by
 rw[zk,LH] at h;simp only[Bool.and_eq_true] at h;exact .word h.1
theorem hsp(r:Bs):qw (32::r):=⟨32,r,rfl,rfl⟩
theorem hsc{c:UInt8}(h:aU c=false)(r:Bs):qw (c::r):=⟨c,r,rfl,h⟩
theorem qQ{t:List (Bs×Int)}(h:t.all (fun p=>decide (p.1.length<=8))=true)(n:Int):(eO t n).length<=8:=by
 unfold eO;cases hf:t.find? (fun p=>p.2==n) with
 |none=>simp
 |some p=>
  have:=List.all_eq_true.1 h p (List.mem_of_find?_eq_some hf);simpa using this
theorem vH(n:Int):(eO fE n).length<=8:=qQ (by decide) n
theorem vG(n:Int):(eO gU n).length<=8:=qQ (by decide) n
theorem vI(n:Int):(eO ig n).length<=8:=qQ (by decide) n
theorem Ha(n:Int):(eO fD n).length<=8:=qQ (by decide) n
theorem oW:∀(d n:Nat),n<10 ^ (d+1)->(Lib.decDigits n).length<=d+1
 |0,n,h=>by
  have:n<10:=by simpa using h
  rw[Lib.decDigits,dif_pos this];simp
 |d+1,n,h=>by
  rw[Lib.decDigits];split
  ·simp
  ·have:=oW d (n/10) (by rw[Nat.pow_succ] at h;omega);simp only[List.length_append,List.length_singleton];omega
theorem qE{n:Int}(h0:0<=n)(h:n<=1099511627776):(l5 n).length<=13:=oW 12 n.toNat (by
 have:n.toNat<=1099511627776:=by omega
 omega)
theorem oG(h:aR s=true):s.length<=64:=by
 cases s with
 |nil=>simp
 |cons c r=>
  rw[aR] at h;simp only[Bool.and_eq_true,decide_eq_true_eq] at h;exact h.1.1.1
theorem lQ{t:bH}(h:aA t=true):(bC t).length<=80:=by
 unfold bC;unfold aA at h;split
 ·rename_i h1;rw[if_pos h1] at h;simp only[dn,Bool.and_eq_true,decide_eq_true_eq] at h;have:=qE h.2.1 h.2.2;omega
 ·rename_i h1;rw[if_neg h1] at h;simp only[Bool.and_eq_true,decide_eq_true_eq] at h;have h2:=oG h.1.2;split
  ·omega
  ·have:=vI t.kind;simp only[List.length_append,List.length_cons,List.length_nil];omega
theorem tC{b:aD}(h:aL b=true):(kE b).length<=80:=by
 unfold aL at h;simp only[Bool.and_eq_true,decide_eq_true_eq] at h;have:=oG h.1.1;have:=vH b.sort;unfold kE;simp only[List.length_append,List.length_cons,List.length_nil];omega
theorem tH:∀ {bs:List aD},bs.all aL=true->(jl bs).length<=82*bs.length
 |[],_=>by simp[jl]
 |b::r,h=>by
  simp only[List.all_cons,Bool.and_eq_true] at h;have h1:=tC h.1;have h2:=tH h.2;rw[jl];simp only[List.length_append,List.length_cons,List.length_nil] at h2 ⊢;omega
theorem rz{bs:List aD}(h:bs.all aL=true)(hl:bs.length<=6):(aO bs).length<=500:=by
 cases bs with
 |nil=>simp[aO]
 |cons b r=>
  simp only[List.all_cons,Bool.and_eq_true] at h;have h1:=tC h.1;have h2:=tH h.2;rw[aO];simp only[List.length_append,List.length_cons] at hl ⊢;omega
theorem NQ(h:cmpL.contains s=true):s.length<=2:=by
 have:∀x∈cmpL,x.length<=2:=by decide
 exact this s (by simpa using h)
theorem jI(f:ae)(least:Nat):(aN f least).length<=(bL f).length+2:=by
 unfold aN;split
 ·simp only[List.length_append,List.length_cons,List.length_nil];omega
 ·omega
theorem wK:∀f,wf f->(bL f).length<=600*f.size:=by
 refine E9 ?_ ?_ ?_ ?_ ?_ ?_
 ·rintro k (rfl|rfl)
  ·rw[dh];simp[ae.size,bF]
  ·rw[dh];simp[ae.size,bF]
 ·intro k a b h1 h2 ha hb;rw[l9,if_neg (by omega),if_neg (by omega),if_neg (by omega),if_neg (by omega),if_neg (by omega),if_neg (by omega),if_neg (by omega),if_neg (by omega)];have e1:=lQ (t:=⟨2,a,0⟩) (by simp[aA,ha]);have e2:=lQ (t:=⟨2,b,0⟩) (by simp[aA,hb]);have e3:=vG k;simp only[List.length_append,List.length_cons,List.length_nil,ae.size,bF];omega
 ·intro s t u hs ht hu;rw[l9,if_neg (by omega),if_neg (by omega),if_pos rfl];have e1:=lQ ht;have e2:=lQ hu;have e3:=NQ hs;simp only[List.length_append,List.length_cons,List.length_nil,ae.size,bF];omega
 ·intro g _ ih;have e:bL (.mk 10 [] 0 [] [] [g])=[33]++aN g 4:=by rw[dh];simp[dA,aN]
  rw[e];have:=jI g 4;simp only[List.length_append,List.length_cons,List.length_nil,ae.size,bF];omega
 ·intro k g g' h1 h2 _ _ ih1 ih2;have:k=11∨k=12∨k=13:=by omega
  rcases this with rfl|rfl|rfl
  ·have e:bL (.mk 11 [] 0 [] [] [g,g'])=aN g 3++([32,38,32]++aN g' 4):=by rw[dh];simp[dA,aN]
   rw[e];have:=jI g 3;have:=jI g' 4;simp only[List.length_append,List.length_cons,List.length_nil,ae.size,bF];omega
  ·have e:bL (.mk 12 [] 0 [] [] [g,g'])=aN g 2++([32,124,32]++aN g' 3):=by rw[dh];simp[dA,aN]
   rw[e];have:=jI g 2;have:=jI g' 3;simp only[List.length_append,List.length_cons,List.length_nil,ae.size,bF];omega
  ·have e:bL (.mk 13 [] 0 [] [] [g,g'])=aN g 2++([32,45,62,32]++aN g' 1):=by rw[dh];simp[dA,aN]
   rw[e];have:=jI g 2;have:=jI g' 1;simp only[List.length_append,List.length_cons,List.length_nil,ae.size,bF];omega
 ·intro k n b bs g h1 h2 hn hm hz hl rD hbs _ ih;have hat:dA [g] 0 0=bL g:=by rw[si [g] 0 0 (by simp)];simp[aN]
  rw[dh,if_neg (by omega),if_neg (by omega),if_neg (by omega),if_neg (by omega),if_neg (by omega),if_neg (by omega),if_neg (by omega),if_pos h1,hat];have e1:=Ha k;have e2:=qE hn hm;have e3:(aO (b::bs)).length<=500:=rz (by simp[rD,hbs]) (by simp only[List.length_cons];omega);have e4:(if 16<=k then l5 n++[32] else []).length<=14:=by split<;>simp<;>omega
  simp only[List.length_append,List.length_cons,List.length_nil,ae.size,bF];omega
abbrev Gp(p p':List Tok):Prop:=p'.map kt=p.map kt
theorem Gp.cons{t:Tok}{p q:List Tok}(h:Gp (t::p) q):∃t' p',q=t'::p'/\kt t'=kt t/\Gp p p':=by
 cases q with
 |nil=>cases h
 |cons t' p'=>
  simp only[Gp,List.map_cons,List.cons.injEq] at h;exact⟨t',p',rfl,h.1,h.2⟩
theorem Gp.app{p1 p2:List Tok}(h:Gp (p1++p2) q):∃q1 q2,q=q1++q2/\Gp p1 q1/\Gp p2 q2:=by
 simp only[Gp,List.map_append] at h;obtain⟨q1,q2,rfl,h1,h2⟩:=List.map_eq_append_iff.1 h;exact⟨q1,q2,rfl,h1,h2⟩
theorem Gs(h:p++r=a++b)(hz:pJ b r):∃p2,b=p2++r/\p=a++p2:=by
 obtain⟨p2,_,rfl⟩:=hz;refine⟨p2,rfl,?_⟩;rw[<-List.append_assoc] at h;exact List.append_cancel_right h
def Ao{α:Type}(P P':List Tok->Rs α)(K:List Tok->Prop):Prop:=∀p r a,P (p++r)=.ok a r->∀q r',Gp p q->K r'->P' (q++r')=.ok a r'
theorem Ao.bind{α β:Type}{P P':List Tok->Rs α}{f f':α->List Tok->Rs β}{K:List Tok->Prop}(hP:Ao P P' (fun _=>True))(Zv:∀l a r,P l=.ok a r->pJ l r)(hfe:∀a l b r,f a l=.ok b r->pJ l r)(hf:∀a,Ao (f a) (f' a) K):Ao (fun l=>(P l).bind f) (fun l=>(P' l).bind f') K:=by
 intro p r b h q r' hk hK;obtain⟨a,l1,h1,h2⟩:=Rs.bind_ok.1 h;have e1:=hfe _ _ _ _ h2;obtain⟨p1,_,hp1⟩:=Zv _ _ _ h1;obtain⟨p2,rfl,rfl⟩:=Gs hp1 e1;obtain⟨q1,q2,rfl,k1,k2⟩:=Gp.app hk;rw[List.append_assoc] at h1;have e2:=hP p1 (p2++r) a h1 q1 (q2++r') k1 trivial;show(P' (q1++q2++r')).bind f'=_;rw[List.append_assoc,e2];exact hf a p2 r b h2 q2 r' k2 hK
def One{α:Type}(P:List Tok->Rs α):Prop:=∀l a r,P l=.ok a r->∃t,l=t::r/\t.kind≠4/\∀t' r',kt t'=kt t->P (t'::r')=.ok a r'
theorem One.ext{P:List Tok->Rs α}(h:One P):Ao P P (fun _=>True):=by
 intro p r a hp q r' hk _;obtain⟨t,ht,_,h2⟩:=h _ _ _ hp;have:p=[t]:=List.append_cancel_right (show p++r=[t]++r from ht);subst this;obtain⟨t',p',rfl,k1,k2⟩:=Gp.cons hk;have:p'=[]:=by simpa[Gp] using k2
 subst this;exact h2 t' r' k1
theorem One.XK{P:List Tok->Rs α}(h:One P){l r:List Tok}{a:α}(e:P l=.ok a r):pJ l r:=by
 obtain⟨t,rfl,hk,_⟩:=h _ _ _ e;exact⟨[t],by simpa using hk,rfl⟩
theorem One.bind{α β:Type}{P:List Tok->Rs α}{f:α->List Tok->Rs β}{K:List Tok->Prop}(hP:One P)(hfe:∀a l b r,f a l=.ok b r->pJ l r)(hf:∀a,Ao (f a) (f a) K):Ao (fun l=>(P l).bind f) (fun l=>(P l).bind f) K:=
 Ao.bind hP.ext (fun _ _ _ h=>hP.XK h) hfe hf
end Go.aa
