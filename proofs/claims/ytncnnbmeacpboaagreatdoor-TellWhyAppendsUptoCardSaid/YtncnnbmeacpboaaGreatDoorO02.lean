/- Parts of the proof. -/
import Derived.WalkKit
set_option linter.unusedVariables false
set_option linter.unusedSimpArgs false
namespace Go.aa
variable {c:UInt8} {at_:Nat}
abbrev Bs:=List UInt8
def kJ(c:UInt8):Bool:=decide (97<=c.toNat)&&decide (c.toNat<=122)
def ku(c:UInt8):Bool:=decide (48<=c.toNat)&&decide (c.toNat<=57)
def bE(c:UInt8):Bool:=kJ c||ku c||c.toNat==95
def pq(c:UInt8):Bool:=c.toNat==32||c.toNat==9||c.toNat==10
def uD(c:UInt8):Bool:=c.toNat==35
def x8(c:UInt8):Bool:=c.toNat==10
def y8:Bs->Bool
 |[]=>false
 |c::r=>kJ c&&(c::r).all bE&&decide ((c::r).length<=64)
def Ro(l:Bs):Nat:=l.foldl (fun n c=>10*n+(c.toNat-48)) 0
def Ra:Bs->Bool
 |[]=>false
 |c::r=>(c::r).all ku&&(r.isEmpty||c.toNat !=48)&&decide (Ro (c::r)<=1099511627776)
def jb:List Bs:=[[33,61],[60,61],[62,61],[45,62],[40],[41],[123],[125],[44],[58],[59],[46],[61],[60],[62],[38],[124],[33]]
def qb(l:Bs):Bs:=(jb.find? (fun s=>s.isPrefixOf l)).getD []
def gG:Bs->Int×Bs×Bool
 |[]=>(3,[],false)
 |c::r=>
  if kJ c then(1,(c::r).takeWhile bE,y8 ((c::r).takeWhile bE))
  else if ku c then(2,(c::r).takeWhile ku,Ra ((c::r).takeWhile ku))
  else(3,qb (c::r),!(qb (c::r)).isEmpty)
structure Tok where
 kind:Int
 text:Bs
 at_:Nat
def Ic:Nat->Bs->Nat->List Tok->List Tok×Nat×Int
 |0,_,_,_=>([],0,0)
 |_+1,[],at_,acc=>(acc++[⟨4,[],at_⟩],0,0)
 |f+1,c::r,at_,acc=>
  if pq c then Ic f r (at_+1) acc
  else if uD c then Ic f ((c::r).dropWhile (fun x=>!x8 x)) (at_+((c::r).takeWhile (fun x=>!x8 x)).length) acc
  else if(gG (c::r)).2.2 then Ic f ((c::r).drop (gG (c::r)).2.1.length) (at_+(gG (c::r)).2.1.length) (acc++[⟨(gG (c::r)).1,(gG (c::r)).2.1,at_⟩])
  else([],at_,50)
theorem yx{l:Bs}(h:(gG l).2.2=true):0<(gG l).2.1.length/\(gG l).2.1.length<=l.length:=by
 cases l with
 |nil=>simp[gG] at h
 |cons c r=>
  rw[gG] at h ⊢;split
  ·rename_i hs;simp only;refine⟨?_,(List.takeWhile_sublist _).length_le⟩;rw[List.takeWhile_cons,if_pos (by simp[bE,hs])];simp
  ·rename_i hs;split
   ·rename_i hd;simp only;refine⟨?_,(List.takeWhile_sublist _).length_le⟩;rw[List.takeWhile_cons,if_pos hd];simp
   ·rename_i hd;rw[if_neg hs,if_neg hd] at h;simp only at h ⊢;simp only[Bool.not_eq_true',List.isEmpty_eq_false_iff] at h;refine⟨List.length_pos_iff.2 h,?_⟩;unfold qb at h ⊢;cases hf:jb.find? (fun s=>s.isPrefixOf (c::r)) with
    |none=>simp[hf] at h
    |some s=>
     have:=List.find?_some hf;simp only[Option.getD_some];exact(List.isPrefixOf_iff_prefix.1 this).length_le
theorem nV:∀(f g:Nat) (l:Bs) (at_:Nat) (acc:List Tok),l.length<f->l.length<g->Ic f l at_ acc=Ic g l at_ acc
 |0,_,_,_,_,h,_=>by omega
 |f+1,0,_,_,_,_,h=>by omega
 |f+1,g+1,[],_,_,_,_=>rfl
 |f+1,g+1,c::r,at_,acc,hf,hg=>by
  simp only[List.length_cons] at hf hg;rw[Ic,Ic];split
  ·exact nV f g r _ _ (by omega) (by omega)
  ·split
   ·rename_i hw hh;have hl:((c::r).dropWhile (fun x=>!x8 x)).length<=r.length:=by
     have:x8 c=false:=by
      simp only[uD,beq_iff_eq] at hh;simp[x8,hh]
     rw[List.dropWhile_cons,if_pos (by simp[this])];exact(List.dropWhile_sublist _).length_le
    exact nV f g _ _ _ (by omega) (by omega)
   ·split
    ·rename_i hn;have:=yx hn;have hl:((c::r).drop (gG (c::r)).2.1.length).length<=r.length:=by
      rw[List.length_drop,List.length_cons];omega
     exact nV f g _ _ _ (by omega) (by omega)
    ·rfl
def oZ(l:Bs)(at_:Nat)(acc:List Tok):List Tok×Nat×Int:=Ic (l.length+1) l at_ acc
theorem zS{r:Bs}{acc:List Tok}(h:pq c=true):oZ (c::r) at_ acc=oZ r (at_+1) acc:=by
 unfold oZ;rw[List.length_cons,Ic,if_pos h]
theorem F9{r:Bs}{acc:List Tok}(hw:pq c=false)(hh:uD c=false)(hn:(gG (c::r)).2.2=true):
  oZ (c::r) at_ acc=oZ ((c::r).drop (gG (c::r)).2.1.length) (at_+(gG (c::r)).2.1.length) (acc++[⟨(gG (c::r)).1,(gG (c::r)).2.1,at_⟩]):=by
 have:=yx hn;unfold oZ;rw[List.length_cons,Ic,if_neg (by simp[hw]),if_neg (by simp[hh]),if_pos hn];refine nV _ _ _ _ _ ?_ (by omega);rw[List.length_drop,List.length_cons];omega
def qH(b:Bs):List Tok×Nat×Int:=if 16384<b.length then([],0,2) else oZ b 0 []
end Go.aa
