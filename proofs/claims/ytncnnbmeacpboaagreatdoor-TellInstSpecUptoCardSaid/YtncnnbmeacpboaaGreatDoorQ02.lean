/- Parts of the proof. -/
import Derived.WalkKit
set_option linter.unusedVariables false
set_option linter.unusedSimpArgs false
namespace Go.aa
variable {c:UInt8} {at_:Nat}
abbrev Bs:=List UInt8
def dX(c:UInt8):Bool:=decide (97<=c.toNat)&&decide (c.toNat<=122)
def jS(c:UInt8):Bool:=decide (48<=c.toNat)&&decide (c.toNat<=57)
def aU(c:UInt8):Bool:=dX c||jS c||c.toNat==95
def su(c:UInt8):Bool:=c.toNat==32||c.toNat==9||c.toNat==10
def xY(c:UInt8):Bool:=c.toNat==35
def yo(c:UInt8):Bool:=c.toNat==10
def iJ:Bs->Bool
 |[]=>false
 |c::r=>dX c&&(c::r).all aU&&decide ((c::r).length<=64)
def WV(l:Bs):Nat:=l.foldl (fun n c=>10*n+(c.toNat-48)) 0
def TQ:Bs->Bool
 |[]=>false
 |c::r=>(c::r).all jS&&(r.isEmpty||c.toNat !=48)&&decide (WV (c::r)<=1099511627776)
def jG:List Bs:=[[33,61],[60,61],[62,61],[45,62],[40],[41],[123],[125],[44],[58],[59],[46],[61],[60],[62],[38],[124],[33]]
def tu(l:Bs):Bs:=(jG.find? (fun s=>s.isPrefixOf l)).getD []
def iR:Bs->Int×Bs×Bool
 |[]=>(3,[],false)
 |c::r=>
  if dX c then(1,(c::r).takeWhile aU,iJ ((c::r).takeWhile aU))
  else if jS c then(2,(c::r).takeWhile jS,TQ ((c::r).takeWhile jS))
  else(3,tu (c::r),!(tu (c::r)).isEmpty)
structure Tok where
 kind:Int
 text:Bs
 at_:Nat
def Ng:Nat->Bs->Nat->List Tok->List Tok×Nat×Int
 |0,_,_,_=>([],0,0)
 |_+1,[],at_,acc=>(acc++[⟨4,[],at_⟩],0,0)
 |f+1,c::r,at_,acc=>
  if su c then Ng f r (at_+1) acc
  else if xY c then Ng f ((c::r).dropWhile (fun x=>!yo x)) (at_+((c::r).takeWhile (fun x=>!yo x)).length) acc
  else if(iR (c::r)).2.2 then Ng f ((c::r).drop (iR (c::r)).2.1.length) (at_+(iR (c::r)).2.1.length) (acc++[⟨(iR (c::r)).1,(iR (c::r)).2.1,at_⟩])
  else([],at_,50)
theorem BN{l:Bs}(h:(iR l).2.2=true):0<(iR l).2.1.length/\(iR l).2.1.length<=l.length:=by
 cases l with
 |nil=>simp[iR] at h
 |cons c r=>
  rw[iR] at h ⊢;split
  ·rename_i hs;simp only;refine⟨?_,(List.takeWhile_sublist _).length_le⟩;rw[List.takeWhile_cons,if_pos (by simp[aU,hs])];simp
  ·rename_i hs;split
   ·rename_i hd;simp only;refine⟨?_,(List.takeWhile_sublist _).length_le⟩;rw[List.takeWhile_cons,if_pos hd];simp
   ·rename_i hd;rw[if_neg hs,if_neg hd] at h;simp only at h ⊢;simp only[Bool.not_eq_true',List.isEmpty_eq_false_iff] at h;refine⟨List.length_pos_iff.2 h,?_⟩;unfold tu at h ⊢;cases hf:jG.find? (fun s=>s.isPrefixOf (c::r)) with
    |none=>simp[hf] at h
    |some s=>
     have:=List.find?_some hf;simp only[Option.getD_some];exact(List.isPrefixOf_iff_prefix.1 this).length_le
theorem qM:∀(f g:Nat) (l:Bs) (at_:Nat) (acc:List Tok),l.length<f->l.length<g->Ng f l at_ acc=Ng g l at_ acc
 |0,_,_,_,_,h,_=>by omega
 |f+1,0,_,_,_,_,h=>by omega
 |f+1,g+1,[],_,_,_,_=>rfl
 |f+1,g+1,c::r,at_,acc,hf,hg=>by
  simp only[List.length_cons] at hf hg;rw[Ng,Ng];split
  ·exact qM f g r _ _ (by omega) (by omega)
  ·split
   ·rename_i hw hh;have hl:((c::r).dropWhile (fun x=>!yo x)).length<=r.length:=by
     have:yo c=false:=by
      simp only[xY,beq_iff_eq] at hh;simp[yo,hh]
     rw[List.dropWhile_cons,if_pos (by simp[this])];exact(List.dropWhile_sublist _).length_le
    exact qM f g _ _ _ (by omega) (by omega)
   ·split
    ·rename_i hn;have:=BN hn;have hl:((c::r).drop (iR (c::r)).2.1.length).length<=r.length:=by
      rw[List.length_drop,List.length_cons];omega
     exact qM f g _ _ _ (by omega) (by omega)
    ·rfl
def nP(l:Bs)(at_:Nat)(acc:List Tok):List Tok×Nat×Int:=Ng (l.length+1) l at_ acc
theorem DX{r:Bs}{acc:List Tok}(h:su c=true):nP (c::r) at_ acc=nP r (at_+1) acc:=by
 unfold nP;rw[List.length_cons,Ng,if_pos h]
theorem Lp{r:Bs}{acc:List Tok}(hw:su c=false)(hh:xY c=false)(hn:(iR (c::r)).2.2=true):
  nP (c::r) at_ acc=nP ((c::r).drop (iR (c::r)).2.1.length) (at_+(iR (c::r)).2.1.length) (acc++[⟨(iR (c::r)).1,(iR (c::r)).2.1,at_⟩]):=by
 have:=BN hn;unfold nP;rw[List.length_cons,Ng,if_neg (by simp[hw]),if_neg (by simp[hh]),if_pos hn];refine qM _ _ _ _ _ ?_ (by omega);rw[List.length_drop,List.length_cons];omega
def uz(b:Bs):List Tok×Nat×Int:=if 16384<b.length then([],0,2) else nP b 0 []
def Q8(t:Tok):Bool:=if t.kind=1 then iJ t.text else if t.kind=2 then TQ t.text else if t.kind=3 then jG.contains t.text else false
def EK:List Bs->Bs
 |[]=>[]
 |[t]=>t
 |t::u::r=>t++32::EK (u::r)
def Li(l:List Tok):Bs×Int:=
 match l.getLast? with
 |none=>([],1)
 |some e=>
  if e.kind=4/\e.text=[]/\(l.dropLast.all Q8)=true then
   (if 16384<(EK (l.dropLast.map Tok.text)).length then([],2) else(EK (l.dropLast.map Tok.text),0))
  else([],1)
end Go.aa
