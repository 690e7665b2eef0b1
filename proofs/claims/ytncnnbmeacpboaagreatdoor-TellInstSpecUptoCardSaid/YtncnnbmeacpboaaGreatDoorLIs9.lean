/- Parts of the proof. -/
import Derived.Test.YtncnnbmeacpboaaGreatDoorQ15
set_option linter.unusedVariables false
set_option linter.unusedSimpArgs false
namespace Go.aa
open Go.RowKit
variable {w:World} {b:Nat} {t:List (Bs×Bs)} {P:Program}
def mZ:Nat->List (Bs×Bs)->List MapEntry
 |_,[]=>[]
 |n,p::r=>{ key:=.string ⟨p.1.toArray⟩,val:=.string ⟨p.2.toArray⟩,born:=n}::mZ (n+1) r
def lY(w:World)(b:Nat)(t:List (Bs×Bs)):Prop:=w.heap[b]?=some (.map (mZ 0 t).toArray t.length)
def jk(t:List (Bs×Bs))(k:Bs):Option Bs:=(t.find? (fun p=>p.1==k)).map Prod.snd
theorem lY.below{w':World}{B:Nat}(h:lY w b t)(hb:Below B w w')(hB:b<B):lY w' b t:=(hb.block b hB).trans h
theorem rA:∀(l:List (Bs×Bs)) (n:Nat) (p:Bs×Bs),mZ n (l++[p])=mZ n l++[{ key:=.string ⟨p.1.toArray⟩,val:=.string ⟨p.2.toArray⟩,born:=n+l.length}]
 |[],n,x=>rfl
 |y::r,n,x=>by rw[List.cons_append,mZ,rA r,mZ,List.cons_append,List.length_cons];congr 4;omega
theorem uZ(k:Bs):∀(l:List (Bs×Bs)) (n i:Nat),(jk l k=none/\Instr.findNow .string (.string ⟨k.toArray⟩) (mZ n l) i=some none)∨∃v j,jk l k=some v/\Instr.findNow .string (.string ⟨k.toArray⟩) (mZ n l) i=some (some (j,.string ⟨v.toArray⟩))
 |[],n,i=>.inl ⟨rfl,rfl⟩
 |x::r,n,i=>by
  rw[mZ,Instr.findNow];simp only[Instr.sameNow,J6];unfold jk;rw[List.find?_cons];cases h:(k==x.1)
  ·rw[show(x.1==k)=false from by rw[<-h];exact BEq.comm];exact uZ k r (n+1) (i+1)
  ·rw[show(x.1==k)=true from by rw[<-h];exact BEq.comm];exact .inr ⟨x.2,i,rfl,rfl⟩
theorem MP(w:World)(T K E:TypeId)(b:Nat)(t:List (Bs×Bs))(k:Bs)(hT:P.underlying T=some (.map K E))(hK:P.underlying K=some .string)(hz:∀w,(zeroValue E).run P w=.ok (.string ⟨#[]⟩) w)(h:lY w b t):
  (Instr.lookup T (.map (some b)) (.string ⟨k.toArray⟩) true).run P w=.ok (.tuple #[.string ⟨((jk t k).getD []).toArray⟩,.bool (jk t k).isSome]) w:=by
 unfold Instr.lookup;rcases uZ k t 0 0 with⟨h1,h2⟩|⟨v,j,h1,h2⟩
 ·simp only[Sem.run_bind,run_underlying hT,Result.andThen_ok,MapKept.run_getObj_map h,Sem.run_pure,MapKept.run_checkKey (P:=P) hK (k:=.string ⟨k.toArray⟩) trivial,MapKept.run_findKey hK h2,hz,h1];rfl
 ·simp only[Sem.run_bind,run_underlying hT,Result.andThen_ok,MapKept.run_getObj_map h,Sem.run_pure,MapKept.run_checkKey (P:=P) hK (k:=.string ⟨k.toArray⟩) trivial,MapKept.run_findKey hK h2,h1];rfl
theorem O3(w:World)(T K E:TypeId)(b:Nat)(t:List (Bs×Bs))(k v:Bs)(hT:P.underlying T=some (.map K E))(hK:P.underlying K=some .string)(h:lY w b t)(hk:jk t k=none):
  (Instr.mapUpdate T (.map (some b)) (.string ⟨k.toArray⟩) (.string ⟨v.toArray⟩)).run P w=.ok () (w.putObj b (.map (mZ 0 (t++[(k,v)])).toArray (t++[(k,v)]).length)):=by
 unfold Instr.mapUpdate;rcases uZ k t 0 0 with⟨h1,h2⟩|⟨v,j,h1,h2⟩
 ·simp only[Sem.run_bind,run_underlying hT,Result.andThen_ok,MapKept.run_getObj_map h,MapKept.run_checkKey (P:=P) hK (k:=.string ⟨k.toArray⟩) trivial,MapKept.run_findKey hK h2,MapKept.run_setObj_map _ h];rw[rA,Nat.zero_add,List.length_append,List.length_singleton];simp[World.putObj]
 ·rw[hk] at h1;cases h1
theorem Ja(h:b<w.heap.size):lY (w.putObj b (.map (mZ 0 t).toArray t.length)) b t:=by
 show(World.putObj _ _ _).heap[_]?=_;rw[World.putObj_heap_same h]
def il:Nat->List (Int×Value)->List MapEntry
 |_,[]=>[]
 |n,p::r=>{ key:=.int .i64 p.1,val:=p.2,born:=n}::il (n+1) r
def nA(w:World)(b:Nat)(t:List (Int×Value)):Prop:=w.heap[b]?=some (.map (il 0 t).toArray t.length)
def iE(t:List (Int×Value))(k:Int):Option Value:=(t.find? (fun p=>p.1==k)).map Prod.snd
def fF:List (Int×Value)->Int->Value->List (Int×Value)
 |[],k,v=>[(k,v)]
 |p::r,k,v=>if p.1==k then(k,v)::r else p::fF r k v
theorem oI:∀(t:List (Int×Value)) (n i:Nat),(il n t)[i]?=t[i]?.map (fun p=>{ key:=.int .i64 p.1,val:=p.2,born:=n+i})
 |[],n,i=>rfl
 |p::r,n,0=>rfl
 |p::r,n,i+1=>by
  rw[il,List.getElem?_cons_succ,List.getElem?_cons_succ,oI r (n+1) i,show n+1+i=n+(i+1) by omega]
theorem qV:∀(l:List (Int×Value)) (n:Nat) (p:Int×Value),il n (l++[p])=il n l++[{ key:=.int .i64 p.1,val:=p.2,born:=n+l.length}]
 |[],n,x=>rfl
 |y::r,n,x=>by rw[List.cons_append,il,qV r,il,List.cons_append,List.length_cons];congr 4;omega
theorem qI(k:Int)(v:Value):∀(l:List (Int×Value)) (n i:Nat),(iE l k=none/\Instr.findNow (.int .i64) (.int .i64 k) (il n l) i=some none/\fF l k v=l++[(k,v)])∨
  ∃u j,iE l k=some u/\Instr.findNow (.int .i64) (.int .i64 k) (il n l) i=some (some (i+j,u))/\l[j]?=some (k,u)/\fF l k v=l.set j (k,v)
 |[],n,i=>.inl ⟨rfl,rfl,rfl⟩
 |x::r,n,i=>by
  rw[il,Instr.findNow];simp only[Instr.sameNow,if_true];unfold iE fF;rw[List.find?_cons];cases h:(k==x.1)
  ·rw[show(x.1==k)=false from by rw[<-h];exact BEq.comm];rcases qI k v r (n+1) (i+1) with⟨h1,h2,h3⟩|⟨u,j,h1,h2,h3,h4⟩
   ·exact .inl ⟨h1,h2,by simp[h3]⟩
   ·exact .inr ⟨u,j+1,h1,by simp only[h2];rw[show i+1+j=i+(j+1) by omega],by simpa using h3,by simp[h4]⟩
  ·rw[show(x.1==k)=true from by rw[<-h];exact BEq.comm];have e:k=x.1:=by simpa using h
   exact .inr ⟨x.2,0,rfl,rfl,by simp[e],by simp⟩
theorem BO(w:World)(T K E:TypeId)(b:Nat)(t:List (Int×Value))(k:Int)(z:Value)(hT:P.underlying T=some (.map K E))(hK:P.underlying K=some (.int .i64))(hz:∀w,(zeroValue E).run P w=.ok z w)(h:nA w b t):
  (Instr.lookup T (.map (some b)) (.int .i64 k) false).run P w=.ok ((iE t k).getD z) w:=by
 unfold Instr.lookup;rcases qI k z t 0 0 with⟨h1,h2,_⟩|⟨u,j,h1,h2,_⟩
 ·simp only[Sem.run_bind,run_underlying hT,Result.andThen_ok,MapKept.run_getObj_map h,Sem.run_pure,MapKept.run_checkKey (P:=P) hK (k:=.int .i64 k) rfl,MapKept.run_findKey hK h2,hz,h1];rfl
 ·simp only[Sem.run_bind,run_underlying hT,Result.andThen_ok,MapKept.run_getObj_map h,Sem.run_pure,MapKept.run_checkKey (P:=P) hK (k:=.int .i64 k) rfl,MapKept.run_findKey hK h2,h1];rfl
theorem zH(w:World)(T K E:TypeId)(b:Nat)(t:List (Int×Value))(k:Int)(v:Value)(hT:P.underlying T=some (.map K E))(hK:P.underlying K=some (.int .i64))(h:nA w b t):
  (Instr.mapUpdate T (.map (some b)) (.int .i64 k) v).run P w=.ok () (w.putObj b (.map (il 0 (fF t k v)).toArray (fF t k v).length)):=by
 unfold Instr.mapUpdate;rcases qI k v t 0 0 with⟨h1,h2,h3⟩|⟨u,j,h1,h2,h3,h4⟩
 ·simp only[Sem.run_bind,run_underlying hT,Result.andThen_ok,MapKept.run_getObj_map h,MapKept.run_checkKey (P:=P) hK (k:=.int .i64 k) rfl,MapKept.run_findKey hK h2,MapKept.run_setObj_map _ h];rw[h3,qV,Nat.zero_add,List.length_append,List.length_singleton];simp[World.putObj]
 ·have hj:(il 0 t)[j]?=some { key:=.int .i64 k,val:=u,born:=j}:=by rw[oI,h3];simp
  have hes:(il 0 t).toArray[0+j]?=some { key:=.int .i64 k,val:=u,born:=j}:=by simpa using hj
  have hm:((il 0 t).toArray.modify (0+j) fun e=>{ e with key:=.int .i64 k,val:=v})=(il 0 (fF t k v)).toArray:=by
   apply Array.ext_getElem?;intro i;rw[Array.getElem?_modify,h4,List.getElem?_toArray,List.getElem?_toArray,oI,oI,List.getElem?_set];by_cases hi:j=i
   ·subst hi;rw[h3];simp[(List.getElem?_eq_some_iff.1 h3).1]
   ·simp[hi]
  simp only[Sem.run_bind,run_underlying hT,Result.andThen_ok,MapKept.run_getObj_map h,MapKept.run_checkKey (P:=P) hK (k:=.int .i64 k) rfl,MapKept.run_findKey hK h2,hes,Option.map_some,Option.getD_some,Instr.keyThatStays,show Instr.sameBits 10000 (.int .i64 k) (.int .i64 k)=true from by simp[Instr.sameBits],if_true,Sem.run_pure,MapKept.run_setObj_map _ h,hm];rw[show(fF t k v).length=t.length by rw[h4,List.length_set]];simp[World.putObj]
theorem yw(w:World):nA (w.alloc (.map #[] 0)) w.heap.size []:=by
 show(w.heap.push _)[w.heap.size]?=_;simp[il]
theorem rU{t:List (Int×Value)}(h:b<w.heap.size):nA (w.putObj b (.map (il 0 t).toArray t.length)) b t:=by
 show(World.putObj _ _ _).heap[_]?=_;rw[World.putObj_heap_same h]
theorem Ed(t:List (Int×Value))(k:Int)(v:Value)(q:Int):iE (fF t k v) q=if q=k then some v else iE t q:=by
 induction t with
 |nil=>
  unfold fF iE;by_cases h:q=k
  ·subst h;simp
  ·have:(k==q)=false:=by simpa using fun e=>h e.symm
   simp[h,this]
 |cons p r ih=>
  unfold fF;by_cases h1:p.1=k
  ·rw[if_pos (by simpa using h1)];unfold iE;by_cases h:q=k
   ·subst h;simp
   ·have e1:(k==q)=false:=by simpa using fun e=>h e.symm
    have e2:(p.1==q)=false:=by rw[h1];exact e1
    simp[h,e1,List.find?_cons,e2]
  ·rw[if_neg (by simpa using h1)];unfold iE at ih ⊢;rw[List.find?_cons,List.find?_cons];by_cases h2:p.1=q
   ·have e2:(p.1==q)=true:=by simpa using h2
    rw[e2,if_neg (by rw[<-h2];exact h1)]
   ·have e2:(p.1==q)=false:=by simpa using h2
    rw[e2];exact ih
end Go.aa
