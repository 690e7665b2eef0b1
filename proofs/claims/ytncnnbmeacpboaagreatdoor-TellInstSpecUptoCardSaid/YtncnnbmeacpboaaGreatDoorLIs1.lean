/- Parts of the proof. -/
import Derived.Test.YtncnnbmeacpboaaGreatDoorQ02
set_option linter.unusedVariables false
set_option linter.unusedSimpArgs false
namespace Go.aa
def kt(t:Tok):Int×Bs:=(t.kind,t.text)
theorem pz(p:UInt8->Bool):∀(x y:Bs),x.all p=true->(y=[]∨∃c r,y=c::r/\p c=false)->(x++y).takeWhile p=x
 |[],y,_,h=>by
  rcases h with rfl|⟨c,r,rfl,h⟩
  ·rfl
  ·rw[List.nil_append,List.takeWhile_cons,if_neg (by simp[h])]
 |c::r,y,ha,h=>by
  rw[List.all_cons,Bool.and_eq_true] at ha;rw[List.cons_append,List.takeWhile_cons,if_pos ha.1,pz p r y ha.2 h]
theorem EG:∀s∈jG,∀y:Bs,(y=[]∨∃r,y=32::r)->tu (s++y)=s:=by
 intro s hs y hy;have key:∀s∈jG,tu s=s/\∀t∈jG,t.isPrefixOf (s++[32])=t.isPrefixOf s:=by decide
 rcases hy with rfl|⟨r,rfl⟩
 ·rw[List.append_nil];exact(key s hs).1
 ·have hp:∀t∈jG,t.isPrefixOf (s++32::r)=t.isPrefixOf s:=fun t ht=>by
   have h1:=(key s hs).2 t ht;have hl:∀t∈jG,t.length<=2:=by decide
   have hl1:∀t∈jG,1<=t.length:=by decide
   have hn:∀t∈jG,∀c∈t,c≠32:=by decide
   match s,t,hl s hs,hl1 s hs,hl t ht,hl1 t ht,hn t ht with
   |[a],[b],_,_,_,_,_=>simp[List.isPrefixOf]
   |[a],[b,b'],_,_,_,_,hb=>have:=hb b' (by simp);simp[List.isPrefixOf,this]
   |[a,a'],[b],_,_,_,_,_=>simp[List.isPrefixOf]
   |[a,a'],[b,b'],_,_,_,_,_=>simp[List.isPrefixOf]
  have:tu (s++32::r)=tu s:=by
   unfold tu;congr 1;have gen:∀L:List Bs,(∀t∈L,t.isPrefixOf (s++32::r)=t.isPrefixOf s)->L.find? (fun t=>t.isPrefixOf (s++32::r))=L.find? (fun t=>t.isPrefixOf s):=by
    intro L
    induction L with
    |nil=>intro _;rfl
    |cons t L ih=>
     intro h;rw[List.find?_cons,List.find?_cons,h t (by simp),ih (fun u hu=>h u (by simp[hu]))]
   exact gen jG hp
  rw[this];exact(key s hs).1
def XH(r:List Tok×Nat×Int):List (Int×Bs)×Int:=(r.1.map kt,r.2.2)
structure Sz (x:Bs):Prop where
 WE:x.all (fun c=>!yo c)=true
 head:x=[]∨∃c r,x=c::r/\(c=9∨c=32∨c=35)
 idle:∀a acc,XH (nP x a acc)=XH (nP [] a acc)
theorem Sz.nil:Sz []:=⟨rfl,.inl rfl,fun _ _=>rfl⟩
end Go.aa
