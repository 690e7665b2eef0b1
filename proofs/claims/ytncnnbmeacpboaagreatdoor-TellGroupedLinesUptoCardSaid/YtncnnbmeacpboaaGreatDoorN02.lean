/- Joined texts: LexLaw. -/
import Derived.WalkKit
set_option linter.unusedVariables false
set_option linter.unusedSimpArgs false
/- The lexer as a function of bytes: no program is named here. -/
namespace Go.Chalk
abbrev Bs:=List UInt8
def smallB (c:UInt8):Bool:=decide (97<=c.toNat)&&decide (c.toNat<=122)
def digitB (c:UInt8):Bool:=decide (48<=c.toNat)&&decide (c.toNat<=57)
def innerB (c:UInt8):Bool:=smallB c||digitB c||c.toNat==95
def whiteB (c:UInt8):Bool:=c.toNat==32||c.toNat==9||c.toNat==10
def hashB (c:UInt8):Bool:=c.toNat==35
def lineB (c:UInt8):Bool:=c.toNat==10
def wordB:Bs->Bool
 | []=>false
 | c :: r=>smallB c&&(c :: r).all innerB&&decide ((c :: r).length<=64)
def valD (l:Bs):Nat:=l.foldl (fun n c=>10*n+(c.toNat - 48)) 0
def numB:Bs->Bool
 | []=>false
 | c :: r=>(c :: r).all digitB&&(r.isEmpty||c.toNat != 48)&&decide (valD (c :: r)<=1099511627776)
def signsL:List Bs:=[[33,61],[60,61],[62,61],[45,62],[40],[41],[123],[125],[44],[58],[59],[46],[61],[60],[62],[38],[124],[33]]
def signB (l:Bs):Bs:=(signsL.find? (fun s=>s.isPrefixOf l)).getD []
def nextF:Bs->Int×Bs×Bool
 | []=>(3,[],false)
 | c :: r =>
  if smallB c then (1,(c :: r).takeWhile innerB,wordB ((c :: r).takeWhile innerB))
  else if digitB c then (2,(c :: r).takeWhile digitB,numB ((c :: r).takeWhile digitB))
  else (3,signB (c :: r),!(signB (c :: r)).isEmpty)

structure Tok where
 kind:Int
 text:Bs
 at_:Nat

def goF:Nat->Bs->Nat->List Tok->List Tok×Nat×Int
 | 0,_,_,_=>([],0,0)
 | _+1,[],at_,acc=>(acc++[⟨4,[],at_⟩],0,0)
 | f+1,c :: r,at_,acc =>
  if whiteB c then goF f r (at_+1) acc
  else if hashB c then goF f ((c :: r).dropWhile (fun x=>!lineB x)) (at_+((c :: r).takeWhile (fun x=>!lineB x)).length) acc
  else if (nextF (c :: r)).2.2 then goF f ((c :: r).drop (nextF (c :: r)).2.1.length) (at_+(nextF (c :: r)).2.1.length) (acc++[⟨(nextF (c :: r)).1,(nextF (c :: r)).2.1,at_⟩])
  else ([],at_,50)

theorem next_pos {l:Bs} (h:(nextF l).2.2=true):0<(nextF l).2.1.length/\(nextF l).2.1.length<=l.length:=by
 cases l with
 | nil=>simp [nextF] at h
 | cons c r =>
  rw [nextF] at h ⊢
  split
  ·rename_i hs
   simp only
   refine ⟨?_,(List.takeWhile_sublist _).length_le⟩
   rw [List.takeWhile_cons,if_pos (by simp [innerB,hs])];simp
  ·rename_i hs
   split
   ·rename_i hd
    simp only
    refine ⟨?_,(List.takeWhile_sublist _).length_le⟩
    rw [List.takeWhile_cons,if_pos hd];simp
   ·rename_i hd
    rw [if_neg hs,if_neg hd] at h
    simp only at h ⊢
    simp only [Bool.not_eq_true',List.isEmpty_eq_false_iff] at h
    refine ⟨List.length_pos_iff.2 h,?_⟩
    unfold signB at h ⊢
    cases hf:signsL.find? (fun s=>s.isPrefixOf (c :: r)) with
    | none=>simp [hf] at h
    | some s =>
     have:=List.find?_some hf
     simp only [Option.getD_some]
     exact (List.isPrefixOf_iff_prefix.1 this).length_le

theorem goF_fuel:∀ (f g:Nat) (l:Bs) (at_:Nat) (acc:List Tok),l.length<f->l.length<g->goF f l at_ acc=goF g l at_ acc
 | 0,_,_,_,_,h,_=>by omega
 | f+1,0,_,_,_,_,h=>by omega
 | f+1,g+1,[],_,_,_,_=>rfl
 | f+1,g+1,c :: r,at_,acc,hf,hg=>by
  simp only [List.length_cons] at hf hg
  rw [goF,goF]
  split
  ·exact goF_fuel f g r _ _ (by omega) (by omega)
  ·split
   ·rename_i hw hh
    have hl:((c :: r).dropWhile (fun x=>!lineB x)).length<=r.length:=by
     have:lineB c=false:=by
      simp only [hashB,beq_iff_eq] at hh
      simp [lineB,hh]
     rw [List.dropWhile_cons,if_pos (by simp [this])]
     exact (List.dropWhile_sublist _).length_le
    exact goF_fuel f g _ _ _ (by omega) (by omega)
   ·split
    ·rename_i hn
     have:=next_pos hn
     have hl:((c :: r).drop (nextF (c :: r)).2.1.length).length<=r.length:=by
      rw [List.length_drop,List.length_cons];omega
     exact goF_fuel f g _ _ _ (by omega) (by omega)
    ·rfl

def lexS (l:Bs) (at_:Nat) (acc:List Tok):List Tok×Nat×Int:=goF (l.length+1) l at_ acc
theorem lexS_white {c:UInt8} {r:Bs} {at_:Nat} {acc:List Tok} (h:whiteB c=true):lexS (c :: r) at_ acc=lexS r (at_+1) acc:=by
 unfold lexS
 rw [List.length_cons,goF,if_pos h]
theorem lexS_tok {c:UInt8} {r:Bs} {at_:Nat} {acc:List Tok} (hw:whiteB c=false) (hh:hashB c=false) (hn:(nextF (c :: r)).2.2=true) :
  lexS (c :: r) at_ acc=lexS ((c :: r).drop (nextF (c :: r)).2.1.length) (at_+(nextF (c :: r)).2.1.length) (acc++[⟨(nextF (c :: r)).1,(nextF (c :: r)).2.1,at_⟩]):=by
 have:=next_pos hn
 unfold lexS
 rw [List.length_cons,goF,if_neg (by simp [hw]),if_neg (by simp [hh]),if_pos hn]
 refine goF_fuel _ _ _ _ _ ?_ (by omega)
 rw [List.length_drop,List.length_cons];omega
def tokensF (b:Bs):List Tok×Nat×Int:=if 16384<b.length then ([],0,2) else lexS b 0 []

end Go.Chalk
