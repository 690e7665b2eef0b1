/- Joined texts: LexProps, LexProps2. -/
import Derived.Test.YtncnnbmeacpboaaGreatDoorN02
set_option linter.unusedVariables false
set_option linter.unusedSimpArgs false
/- What the lexer's function answers: places, runs. -/
namespace Go.Chalk
end Go.Chalk
/- What the lexer's function answers: runs; joining and lexing again; remarks. -/
namespace Go.Chalk
def kt (t:Tok):Int×Bs:=(t.kind,t.text)
theorem takeWhile_app (p:UInt8->Bool):∀ (x y:Bs),x.all p=true->(y=[]∨∃ c r,y=c :: r/\p c=false)->(x++y).takeWhile p=x
 | [],y,_,h=>by
  rcases h with rfl | ⟨c,r,rfl,h⟩
  ·rfl
  ·rw [List.nil_append,List.takeWhile_cons,if_neg (by simp [h])]
 | c :: r,y,ha,h=>by
  rw [List.all_cons,Bool.and_eq_true] at ha
  rw [List.cons_append,List.takeWhile_cons,if_pos ha.1,takeWhile_app p r y ha.2 h]
theorem sign_space:∀ s∈signsL,∀ y:Bs,(y=[]∨∃ r,y=32 :: r)->signB (s++y)=s:=by
 intro s hs y hy
 have key:∀ s∈signsL,signB s=s/\∀ t∈signsL,t.isPrefixOf (s++[32])=t.isPrefixOf s:=by decide
 rcases hy with rfl | ⟨r,rfl⟩
 ·rw [List.append_nil];exact (key s hs).1
 ·have hp:∀ t∈signsL,t.isPrefixOf (s++32 :: r)=t.isPrefixOf s:=fun t ht=>by
   have h1:=(key s hs).2 t ht
   have hl:∀ t∈signsL,t.length<=2:=by decide
   have hl1:∀ t∈signsL,1<=t.length:=by decide
   have hn:∀ t∈signsL,∀ c∈t,c ≠ 32:=by decide
   -- compare by cases on the lengths
   match s,t,hl s hs,hl1 s hs,hl t ht,hl1 t ht,hn t ht with
   | [a],[b],_,_,_,_,_=>simp [List.isPrefixOf]
   | [a],[b,b'],_,_,_,_,hb=>have:=hb b' (by simp);simp [List.isPrefixOf,this]
   | [a,a'],[b],_,_,_,_,_=>simp [List.isPrefixOf]
   | [a,a'],[b,b'],_,_,_,_,_=>simp [List.isPrefixOf]
  have:signB (s++32 :: r)=signB s:=by
   unfold signB
   congr 1
   have gen:∀ L:List Bs,(∀ t∈L,t.isPrefixOf (s++32 :: r)=t.isPrefixOf s)->L.find? (fun t=>t.isPrefixOf (s++32 :: r))=L.find? (fun t=>t.isPrefixOf s):=by
    intro L
    induction L with
    | nil=>intro _;rfl
    | cons t L ih =>
     intro h
     rw [List.find?_cons,List.find?_cons,h t (by simp),ih (fun u hu=>h u (by simp [hu]))]
   exact gen signsL hp
  rw [this];exact (key s hs).1

end Go.Chalk
