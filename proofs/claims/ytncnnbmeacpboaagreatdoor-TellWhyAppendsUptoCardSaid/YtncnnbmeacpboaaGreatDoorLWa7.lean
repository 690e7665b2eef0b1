/- Parts of the proof. -/
import Derived.Test.YtncnnbmeacpboaaGreatDoorO15
set_option linter.unusedVariables false
set_option linter.unusedSimpArgs false
namespace Go.aa
open Go.RowKit
variable {w:World} {b:Nat} {t:List (Bs×Bs)} {P:Program}
def kW:Nat->List (Bs×Bs)->List MapEntry
 |_,[]=>[]
 |n,p::r=>{ key:=.string ⟨p.1.toArray⟩,val:=.string ⟨p.2.toArray⟩,born:=n}::kW (n+1) r
def jW(w:World)(b:Nat)(t:List (Bs×Bs)):Prop:=w.heap[b]?=some (.map (kW 0 t).toArray t.length)
def ic(t:List (Bs×Bs))(k:Bs):Option Bs:=(t.find? (fun p=>p.1==k)).map Prod.snd
theorem jW.below{w':World}{B:Nat}(h:jW w b t)(hb:Below B w w')(hB:b<B):jW w' b t:=(hb.block b hB).trans h
theorem oD:∀(l:List (Bs×Bs)) (n:Nat) (p:Bs×Bs),kW n (l++[p])=kW n l++[{ key:=.string ⟨p.1.toArray⟩,val:=.string ⟨p.2.toArray⟩,born:=n+l.length}]
 |[],n,x=>rfl
 |y::r,n,x=>by rw[List.cons_append,kW,oD r,kW,List.cons_append,List.length_cons];congr 4;omega
theorem rD(k:Bs):∀(l:List (Bs×Bs)) (n i:Nat),(ic l k=none/\Instr.findNow .string (.string ⟨k.toArray⟩) (kW n l) i=some none)∨∃v j,ic l k=some v/\Instr.findNow .string (.string ⟨k.toArray⟩) (kW n l) i=some (some (j,.string ⟨v.toArray⟩))
 |[],n,i=>.inl ⟨rfl,rfl⟩
 |x::r,n,i=>by
  rw[kW,Instr.findNow];simp only[Instr.sameNow,EL];unfold ic;rw[List.find?_cons];cases h:(k==x.1)
  ·rw[show(x.1==k)=false from by rw[<-h];exact BEq.comm];exact rD k r (n+1) (i+1)
  ·rw[show(x.1==k)=true from by rw[<-h];exact BEq.comm];exact .inr ⟨x.2,i,rfl,rfl⟩
theorem G8(w:World)(T K E:TypeId)(b:Nat)(t:List (Bs×Bs))(k:Bs)(hT:P.underlying T=some (.map K E))(hK:P.underlying K=some .string)(hz:∀w,(zeroValue E).run P w=.ok (.string ⟨#[]⟩) w)(h:jW w b t):
  (Instr.lookup T (.map (some b)) (.string ⟨k.toArray⟩) true).run P w=.ok (.tuple #[.string ⟨((ic t k).getD []).toArray⟩,.bool (ic t k).isSome]) w:=by
 unfold Instr.lookup;rcases rD k t 0 0 with⟨h1,h2⟩|⟨v,j,h1,h2⟩
 ·simp only[Sem.run_bind,run_underlying hT,Result.andThen_ok,MapKept.run_getObj_map h,Sem.run_pure,MapKept.run_checkKey (P:=P) hK (k:=.string ⟨k.toArray⟩) trivial,MapKept.run_findKey hK h2,hz,h1];rfl
 ·simp only[Sem.run_bind,run_underlying hT,Result.andThen_ok,MapKept.run_getObj_map h,Sem.run_pure,MapKept.run_checkKey (P:=P) hK (k:=.string ⟨k.toArray⟩) trivial,MapKept.run_findKey hK h2,h1];rfl
theorem JF(w:World)(T K E:TypeId)(b:Nat)(t:List (Bs×Bs))(k v:Bs)(hT:P.underlying T=some (.map K E))(hK:P.underlying K=some .string)(h:jW w b t)(hk:ic t k=none):
  (Instr.mapUpdate T (.map (some b)) (.string ⟨k.toArray⟩) (.string ⟨v.toArray⟩)).run P w=.ok () (w.putObj b (.map (kW 0 (t++[(k,v)])).toArray (t++[(k,v)]).length)):=by
 unfold Instr.mapUpdate;rcases rD k t 0 0 with⟨h1,h2⟩|⟨v,j,h1,h2⟩
 ·simp only[Sem.run_bind,run_underlying hT,Result.andThen_ok,MapKept.run_getObj_map h,MapKept.run_checkKey (P:=P) hK (k:=.string ⟨k.toArray⟩) trivial,MapKept.run_findKey hK h2,MapKept.run_setObj_map _ h];rw[oD,Nat.zero_add,List.length_append,List.length_singleton];simp[World.putObj]
 ·rw[hk] at h1;cases h1
theorem DU(h:b<w.heap.size):jW (w.putObj b (.map (kW 0 t).toArray t.length)) b t:=by
 show(World.putObj _ _ _).heap[_]?=_;rw[World.putObj_heap_same h]
def fD:Nat->List (Int×Value)->List MapEntry
 |_,[]=>[]
 |n,p::r=>{ key:=.int .i64 p.1,val:=p.2,born:=n}::fD (n+1) r
def lq(w:World)(b:Nat)(t:List (Int×Value)):Prop:=w.heap[b]?=some (.map (fD 0 t).toArray t.length)
def fV(t:List (Int×Value))(k:Int):Option Value:=(t.find? (fun p=>p.1==k)).map Prod.snd
def dW:List (Int×Value)->Int->Value->List (Int×Value)
 |[],k,v=>[(k,v)]
 |p::r,k,v=>if p.1==k then(k,v)::r else p::dW r k v
theorem lW:∀(t:List (Int×Value)) (n i:Nat),(fD n t)[i]?=t[i]?.map (fun p=>{ key:=.int .i64 p.1,val:=p.2,born:=n+i})
 |[],n,i=>rfl
 |p::r,n,0=>rfl
 |p::r,n,i+1=>by
  rw[fD,List.getElem?_cons_succ,List.getElem?_cons_succ,lW r (n+1) i,show n+1+i=n+(i+1) by omega]
theorem om:∀(l:List (Int×Value)) (n:Nat) (p:Int×Value),fD n (l++[p])=fD n l++[{ key:=.int .i64 p.1,val:=p.2,born:=n+l.length}]
 |[],n,x=>rfl
 |y::r,n,x=>by rw[List.cons_append,fD,om r,fD,List.cons_append,List.length_cons];congr 4;omega
theorem nR(k:Int)(v:Value):∀(l:List (Int×Value)) (n i:Nat),(fV l k=none/\Instr.findNow (.int .i64) (.int .i64 k) (fD n l) i=some none/\dW l k v=l++[(k,v)])∨
  ∃u j,fV l k=some u/\Instr.findNow (.int .i64) (.int .i64 k) (fD n l) i=some (some (i+j,u))/\l[j]?=some (k,u)/\dW l k v=l.set j (k,v)
 |[],n,i=>.inl ⟨rfl,rfl,rfl⟩
 |x::r,n,i=>by
  rw[fD,Instr.findNow];simp only[Instr.sameNow,if_true];unfold fV dW;rw[List.find?_cons];cases h:(k==x.1)
  ·rw[show(x.1==k)=false from by rw[<-h];exact BEq.comm];rcases nR k v r (n+1) (i+1) with⟨h1,h2,h3⟩|⟨u,j,h1,h2,h3,h4⟩
   ·exact .inl ⟨h1,h2,by simp[h3]⟩
   ·exact .inr ⟨u,j+1,h1,by simp only[h2];rw[show i+1+j=i+(j+1) by omega],by simpa using h3,by simp[h4]⟩
  ·rw[show(x.1==k)=true from by rw[<-h];exact BEq.comm];have e:k=x.1:=by simpa using h
   exact .inr ⟨x.2,0,rfl,rfl,by simp[e],by simp⟩
theorem yA(w:World)(T K E:TypeId)(b:Nat)(t:List (Int×Value))(k:Int)(z:Value)(hT:P.underlying T=some (.map K E))(hK:P.underlying K=some (.int .i64))(hz:∀w,(zeroValue E).run P w=.ok z w)(h:lq w b t):
  (Instr.lookup T (.map (some b)) (.int .i64 k) false).run P w=.ok ((fV t k).getD z) w:=by
 unfold Instr.lookup;rcases nR k z t 0 0 with⟨h1,h2,_⟩|⟨u,j,h1,h2,_⟩
 ·simp only[Sem.run_bind,run_underlying hT,Result.andThen_ok,MapKept.run_getObj_map h,Sem.run_pure,MapKept.run_checkKey (P:=P) hK (k:=.int .i64 k) rfl,MapKept.run_findKey hK h2,hz,h1];rfl
 ·simp only[Sem.run_bind,run_underlying hT,Result.andThen_ok,MapKept.run_getObj_map h,Sem.run_pure,MapKept.run_checkKey (P:=P) hK (k:=.int .i64 k) rfl,MapKept.run_findKey hK h2,h1];rfl
theorem wz(w:World)(T K E:TypeId)(b:Nat)(t:List (Int×Value))(k:Int)(v:Value)(hT:P.underlying T=some (.map K E))(hK:P.underlying K=some (.int .i64))(h:lq w b t):
  (Instr.mapUpdate T (.map (some b)) (.int .i64 k) v).run P w=.ok () (w.putObj b (.map (fD 0 (dW t k v)).toArray (dW t k v).length)):=by
 unfold Instr.mapUpdate;rcases nR k v t 0 0 with⟨h1,h2,h3⟩|⟨u,j,h1,h2,h3,h4⟩
 ·simp only[Sem.run_bind,run_underlying hT,Result.andThen_ok,MapKept.run_getObj_map h,MapKept.run_checkKey (P:=P) hK (k:=.int .i64 k) rfl,MapKept.run_findKey hK h2,MapKept.run_setObj_map _ h];rw[h3,om,Nat.zero_add,List.length_append,List.length_singleton];simp[World.putObj]
 ·have hj:(fD 0 t)[j]?=some { key:=.int .i64 k,val:=u,born:=j}:=by rw[lW,h3];simp
  have hes:(fD 0 t).toArray[0+j]?=some { key:=.int .i64 k,val:=u,born:=j}:=by simpa using hj
  have hm:((fD 0 t).toArray.modify (0+j) fun e=>{ e with key:=.int .i64 k,val:=v})=(fD 0 (dW t k v)).toArray:=by
   apply Array.ext_getElem?;intro i;rw[Array.getElem?_modify,h4,List.getElem?_toArray,List.getElem?_toArray,lW,lW,List.getElem?_set];by_cases hi:j=i
   ·subst hi;rw[h3];simp[(List.getElem?_eq_some_iff.1 h3).1]
   ·simp[hi]
  simp only[Sem.run_bind,run_underlying hT,Result.andThen_ok,MapKept.run_getObj_map h,MapKept.run_checkKey (P:=P) hK (k:=.int .i64 k) rfl,MapKept.run_findKey hK h2,hes,Option.map_some,Option.getD_some,Instr.keyThatStays,show Instr.sameBits 10000 (.int .i64 k) (.int .i64 k)=true from by simp[Instr.sameBits],if_true,Sem.run_pure,MapKept.run_setObj_map _ h,hm];rw[show(dW t k v).length=t.length by rw[h4,List.length_set]];simp[World.putObj]
theorem uT(w:World):lq (w.alloc (.map #[] 0)) w.heap.size []:=by
 show(w.heap.push _)[w.heap.size]?=_;simp[fD]
theorem o5{t:List (Int×Value)}(h:b<w.heap.size):lq (w.putObj b (.map (fD 0 t).toArray t.length)) b t:=by
 show(World.putObj _ _ _).heap[_]?=_;rw[World.putObj_heap_same h]
theorem zW(t:List (Int×Value))(k:Int)(v:Value)(q:Int):fV (dW t k v) q=if q=k then some v else fV t q:=by
 induction t with
 |nil=>
  unfold dW fV;by_cases h:q=k
  ·subst h;simp
  ·have:(k==q)=false:=by simpa using fun e=>h e.symm
   simp[h,this]
 |cons p r ih=>
  unfold dW;by_cases h1:p.1=k
  ·rw[if_pos (by simpa using h1)];unfold fV;by_cases h:q=k
   ·subst h;simp
   ·have e1:(k==q)=false:=by simpa using fun e=>h e.symm
    have e2:(p.1==q)=false:=by rw[h1];exact e1
    simp[h,e1,List.find?_cons,e2]
  ·rw[if_neg (by simpa using h1)];unfold fV at ih ⊢;rw[List.find?_cons,List.find?_cons];by_cases h2:p.1=q
   ·have e2:(p.1==q)=true:=by simpa using h2
    rw[e2,if_neg (by rw[<-h2];exact h1)]
   ·have e2:(p.1==q)=false:=by simpa using h2
    rw[e2];exact ih
end Go.aa
