/- Parts of the proof. -/
import Derived.Test.YtncnnbmeacpboaaGreatDoorLIs11
import Derived.Lib.SlBytesConst
import Derived.Test.YtncnnbmeacpboaaGreatDoorLIs1
set_option linter.unusedVariables false
set_option linter.unusedSimpArgs false
namespace Go.aa
open Go.RowKit Go.Proofs.YtncnnbmeacpboaaGreatDoor
variable {l:Bs} {p k:Nat} {q:UInt8->Bool}
structure JR (l:Bs) (p p':Nat):Prop where
 le:p<=p'
 le':p'<=l.length
 same:∀acc,nP (l.drop p) p acc=nP (l.drop p') p' acc
theorem JR.refl(h:p<=l.length):JR l p p:=⟨Nat.le_refl _,h,fun _=>rfl⟩
theorem nY:∀(m:Bs) (n:Nat) (q:UInt8->Bool),n<=m.length->(∀i (h:i<m.length),i<n->q m[i]=true)->(∀h:n<m.length,q m[n]=false)->(m.takeWhile q).length=n
 |[],n,_,hn,_,_=>by simp at hn;simp[hn]
 |c::r,0,q,_,_,h2=>by
  have:=h2 (by simp);simp only[List.getElem_cons_zero] at this;rw[List.takeWhile_cons,this];rfl
 |c::r,n+1,q,hn,h1,h2=>by
  have h0:=h1 0 (by simp) (by omega);simp only[List.getElem_cons_zero] at h0;rw[List.takeWhile_cons,h0];simp only[if_true,List.length_cons,Nat.add_right_cancel_iff];refine nY r n q (by simpa using hn) (fun i h hi=>?_) (fun h=>?_)
  ·have:=h1 (i+1) (by simpa using h) (by omega);simpa using this
  ·have:=h2 (by simpa using h);simpa using this
def Ak(q:UInt8->Bool)(l:Bs)(p k:Nat):Prop:=∀i (h:i<l.length),p<=i->i<k->q l[i]=true
theorem Ak.next(h:Ak q l p k)(hk:k<l.length)(hq:q l[k]=true):Ak q l p (k+1):=fun i hi h1 h2=>by
 rcases Nat.lt_succ_iff_lt_or_eq.1 h2 with h'|rfl
 ·exact h i hi h1 h'
 ·exact hq
theorem Ak.run(h:Ak q l p k)(hp:p<=k)(hk:k<=l.length)(hend:∀h:k<l.length,q l[k]=false):(l.drop p).takeWhile q=(l.drop p).take (k-p):=by
 have hl:((l.drop p).takeWhile q).length=k-p:=by
  refine nY _ _ _ (by rw[List.length_drop];omega) (fun i hi hik=>?_) (fun hi=>?_)
  ·rw[List.length_drop] at hi;rw[List.getElem_drop];exact h (p+i) (by omega) (by omega) (by omega)
  ·rw[List.length_drop] at hi;rw[List.getElem_drop];have e:p+(k-p)=k:=by omega
   simp only[e];exact hend (by omega)
 rw[<-hl,mY]
end Go.aa
