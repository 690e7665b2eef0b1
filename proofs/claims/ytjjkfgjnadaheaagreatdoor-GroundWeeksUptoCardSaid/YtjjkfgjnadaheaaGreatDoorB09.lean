/- Joined texts: Tuples, GrdW, TruP. -/
import Derived.Test.YtjjkfgjnadaheaaGreatDoorB08
set_option linter.unusedVariables false
set_option linter.unusedSimpArgs false

/- The tuples in lexicographic order, by the step from one to the next. No program is named here. -/
namespace Go.Chalk
def nextT:List Nat->List Nat->Option (List Nat)
 | k :: ks,x :: xs=>match nextT ks xs with
  | some ys=>some (x :: ys)
  | none=>if x+1=k then none else some ((x+1) :: List.replicate xs.length 0)
 | _,_=>none
theorem flat_get (T:List (List Nat)):∀ (l:List Nat) (i j:Nat) (hi:i<l.length) (hj:j<T.length),(l.flatMap (fun i=>T.map (i :: ·)))[i*T.length+j]?=some (l[i] :: T[j])
 | x :: l,0,j,hi,hj=>by
  rw [List.flatMap_cons,Nat.zero_mul,Nat.zero_add,List.getElem?_append_left (by simpa using hj)]
  simp [hj]
 | x :: l,i+1,j,hi,hj=>by
  rw [List.flatMap_cons,List.getElem?_append_right (by rw [List.length_map,Nat.add_mul];omega)]
  have e:(i+1)*T.length+j - (T.map (x :: ·)).length=i*T.length+j:=by rw [List.length_map,Nat.add_mul];omega
  rw [e,flat_get T l i j (by simpa using hi) hj]
  simp
theorem tuples_get (k:Nat) (r:List Nat) {i j:Nat} (hi:i<k) (hj:j<(tuplesF r).length):(tuplesF (k :: r))[i*(tuplesF r).length+j]?=some (i :: (tuplesF r)[j]):=by
 rw [tuplesF,flat_get (tuplesF r) (List.range k) i j (by simpa using hi) hj];simp
theorem tuples_pos:∀ l:List Nat,(∀ x∈l,0<x)->0<(tuplesF l).length:=fun l h=>by
 rw [tuples_length]
 induction l with
 | nil=>simp
 | cons x r ih=>rw [List.prod_cons];exact Nat.mul_pos (h x (by simp)) (ih (fun y hy=>h y (by simp [hy])))
theorem tuples_first:∀ l:List Nat,(∀ x∈l,0<x)->(tuplesF l)[0]?=some (List.replicate l.length 0)
 | [],_=>rfl
 | k :: r,h=>by
  have h0:=tuples_first r (fun y hy=>h y (by simp [hy]))
  have hp:=tuples_pos r (fun y hy=>h y (by simp [hy]))
  have:=tuples_get k r (i:=0) (j:=0) (h k (by simp)) hp
  rw [Nat.zero_mul,Nat.add_zero] at this
  rw [this]
  rw [List.getElem?_eq_getElem hp] at h0
  simp only [Option.some.injEq] at h0
  rw [h0];rfl
theorem tuples_next:∀ (l:List Nat),(∀ x∈l,0<x)->∀ (j:Nat) (t:List Nat),(tuplesF l)[j]?=some t->(tuplesF l)[j+1]?=nextT l t
 | [],_,j,t,h=>by
  cases j with
  | zero=>simp [tuplesF] at h ⊢;subst h;simp [nextT]
  | succ j=>simp [tuplesF] at h
 | k :: r,hpos,j,t,h=>by
  have hpr:∀ y∈r,0<y:=fun y hy=>hpos y (by simp [hy])
  have hp:=tuples_pos r hpr
  have hlen:(tuplesF (k :: r)).length=k*(tuplesF r).length:=by rw [tuples_length,List.prod_cons,tuples_length]
  obtain ⟨hj,_⟩:=List.getElem?_eq_some_iff.1 h
  rw [hlen] at hj
  have hm:j % (tuplesF r).length<(tuplesF r).length:=Nat.mod_lt _ hp
  have hd:j / (tuplesF r).length<k:=Nat.div_lt_of_lt_mul (by rw [Nat.mul_comm];exact hj)
  have hjj:j / (tuplesF r).length*(tuplesF r).length+j % (tuplesF r).length=j:=Nat.div_add_mod' j _
  have hg:=tuples_get k r hd hm
  rw [hjj,h] at hg
  simp only [Option.some.injEq] at hg
  subst hg
  have ih:=tuples_next r hpr (j % (tuplesF r).length) _ (List.getElem?_eq_getElem hm)
  simp only [nextT]
  rw [<- ih]
  by_cases hlast:j % (tuplesF r).length+1<(tuplesF r).length
  ·have h2:=tuples_get k r hd hlast
   rw [show j / (tuplesF r).length*(tuplesF r).length+(j % (tuplesF r).length+1)=j+1 from by omega] at h2
   rw [h2,List.getElem?_eq_getElem hlast]
  ·rw [List.getElem?_eq_none (by omega:(tuplesF r).length<=j % (tuplesF r).length+1)]
   simp only
   have hnext:(j / (tuplesF r).length+1)*(tuplesF r).length=j+1:=by
    rw [Nat.add_mul];omega
   by_cases hk:j / (tuplesF r).length+1=k
   ·rw [if_pos hk,List.getElem?_eq_none]
    rw [hlen,<- hk,hnext];exact Nat.le_refl _
   ·rw [if_neg hk]
    have h2:=tuples_get k r (i:=j / (tuplesF r).length+1) (j:=0) (by omega) hp
    rw [hnext,Nat.add_zero] at h2
    rw [h2]
    have h0:=tuples_first r hpr
    rw [List.getElem?_eq_getElem hp] at h0
    simp only [Option.some.injEq] at h0
    rw [h0]
    have hl:((tuplesF r)[j % (tuplesF r).length]).length=r.length:=((tuples_mem _ _).1 (List.getElem_mem hm)).1
    rw [hl]
theorem nextT_none:∀ (l t:List Nat),l.length=t.length->(∀ p (h:p<l.length) (h':p<t.length),t[p]+1=l[p])->nextT l t=none
 | [],[],_,_=>rfl
 | k :: ks,x :: xs,hl,h=>by
  rw [nextT,nextT_none ks xs (by simpa using hl) (fun p hp hp'=>h (p+1) (by simpa using hp) (by simpa using hp'))]
  simp only
  have h0:x+1=k:=h 0 (by simp) (by simp)
  rw [if_pos h0]
theorem nextT_at:∀ (l t:List Nat) (i:Nat) (hi:i<l.length) (hi':i<t.length),l.length=t.length->t[i]+1 ≠ l[i]->(∀ p (h:p<l.length) (h':p<t.length),i<p->t[p]+1=l[p])->nextT l t=some (t.take i++[t[i]+1]++List.replicate (t.length - 1 - i) 0)
 | k :: ks,x :: xs,0,hi,hi',hl,h0,h=>by
  rw [nextT,nextT_none ks xs (by simpa using hl) (fun p hp hp'=>h (p+1) (by simpa using hp) (by simpa using hp') (by omega))]
  simp only
  have h1:¬ (x+1=k):=h0
  rw [if_neg h1]
  simp
 | k :: ks,x :: xs,i+1,hi,hi',hl,h0,h=>by
  rw [nextT,nextT_at ks xs i (by simpa using hi) (by simpa using hi') (by simpa using hl) h0 (fun p hp hp' hip=>h (p+1) (by simpa using hp) (by simpa using hp') (by omega))]
  simp only [List.take_succ_cons,List.getElem_cons_succ,List.length_cons,List.cons_append]
  congr 3
  congr 1
  omega
end Go.Chalk
/- The plain law of the frame: its formulas are true exactly under the assignments of weeks. No program is named here. -/
namespace Go.Chalk
def oneT (l:List Int):Tr:=.mk 4 0 0 [.mk 6 0 1 (l.map (fun v=>.mk 2 v 0 [])),.mk 3 0 0 [.mk 6 0 2 (l.map (fun v=>.mk 2 v 0 []))]]
def slotsV (s:Schl) (i:Nat):List Int:=(List.range s.slots.length).map (fun (j:Nat)=>wkAt s i j)
def roomsV (s:Schl) (i:Nat):List Int:=(List.range s.rooms.length).map (fun (j:Nat)=>wkIn s i j)
def frameF (s:Schl):List Tr:=(List.range s.lessons.length).flatMap (fun i=>[oneT (slotsV s i),oneT (roomsV s i)])
theorem cnt_vars (l:List Int) (a:List Bool):cntG (l.map (fun v=>.mk 2 v 0 [])) a=l.countP (bitG a):=by
 rw [cntG_eq,List.countP_map]
 exact List.countP_congr (fun v _=>by simp [valG_k])
theorem valG_one (l:List Int) (a:List Bool):valG (oneT l) a=decide (l.countP (bitG a)=1):=by
 unfold oneT
 simp only [valG_k,cntG,notG,cnt_vars,Int.reduceEq,↓reduceIte,List.length_cons,List.length_nil]
 rw [Bool.eq_iff_iff]
 simp only [decide_eq_true_eq]
 by_cases h1:(1:Int)<=(l.countP (bitG a):Int) <;> by_cases h2:(2:Int)<=(l.countP (bitG a):Int) <;> simp [h1,h2] <;> omega
def lastI (p:Nat->Bool):Nat->Nat
 | 0=>0
 | n+1=>if p n then n else lastI p n
theorem lastI_spec (p:Nat->Bool):∀ n:Nat,(List.range n).countP p=1->lastI p n<n/\∀ j,j<n->(p j=decide (lastI p n=j))
 | 0,h=>by simp at h
 | n+1,h=>by
  rw [List.range_succ,List.countP_append,List.countP_singleton] at h
  rw [lastI]
  by_cases hp:p n=true
  ·rw [if_pos hp]
   rw [if_pos hp] at h
   have h0:(List.range n).countP p=0:=by omega
   rw [List.countP_eq_zero] at h0
   refine ⟨by omega,fun j hj=>?_⟩
   by_cases hjn:j=n
   ·subst hjn;simp [hp]
   ·have:=h0 j (by simp;omega)
    have e:decide (n=j)=false:=by simp;omega
    rw [e];simpa using this
  ·rw [if_neg hp]
   rw [if_neg hp] at h
   obtain ⟨h1,h2⟩:=lastI_spec p n (by omega)
   refine ⟨by omega,fun j hj=>?_⟩
   by_cases hjn:j=n
   ·subst hjn
    have e:decide (lastI p j=j)=false:=by simp;omega
    rw [e];simpa using hp
   ·exact h2 j (by omega)
def slotP (s:Schl) (a:List Bool) (i:Nat) (j:Nat):Bool:=bitG a (wkAt s i j)
def roomP (s:Schl) (a:List Bool) (i:Nat) (j:Nat):Bool:=bitG a (wkIn s i j)
def uniqB (s:Schl) (a:List Bool) (i:Nat):Bool:=decide ((List.range s.slots.length).countP (slotP s a i)=1)&&decide ((List.range s.rooms.length).countP (roomP s a i)=1)
def weekF (s:Schl) (a:List Bool):List Plc:=(List.range s.lessons.length).map (fun i=>⟨lastI (slotP s a i) s.slots.length,lastI (roomP s a i) s.rooms.length⟩)
def ofF (s:Schl) (a:List Bool):List Plc×Int:=if schCheck s ≠ 0 then ([],schCheck s) else if (List.range s.lessons.length).all (uniqB s a) then (weekF s a,0) else ([],40)
theorem frame_all (s:Schl) (a:List Bool):(frameF s).all (valG · a)=(List.range s.lessons.length).all (uniqB s a):=by
 unfold frameF
 rw [List.all_flatMap]
 congr 1
 funext i
 simp only [List.all_cons,List.all_nil,Bool.and_true,valG_one,uniqB,slotsV,roomsV,List.countP_map]
 rfl
theorem plc_weekF {s:Schl} {a:List Bool} {i:Nat} (hi:i<s.lessons.length):plcAt (weekF s a) i=⟨lastI (slotP s a i) s.slots.length,lastI (roomP s a i) s.rooms.length⟩:=by
 unfold plcAt weekF
 simp [hi]
theorem uniq_get {s:Schl} {a:List Bool} (h:(List.range s.lessons.length).all (uniqB s a)=true) {i:Nat} (hi:i<s.lessons.length):(List.range s.slots.length).countP (slotP s a i)=1/\(List.range s.rooms.length).countP (roomP s a i)=1:=by
 rw [List.all_eq_true] at h
 have:=h i (by simpa using hi)
 unfold uniqB at this
 simpa using this
theorem weekF_check {s:Schl} {a:List Bool} (hs:schCheck s=0) (h:(List.range s.lessons.length).all (uniqB s a)=true):weekCheck s (weekF s a)=0:=by
 unfold weekCheck
 rw [if_neg (by simp [hs]),if_neg]
 rintro (hl | hl)
 ·exact hl (by simp [weekF])
 ·rw [List.any_eq_true] at hl
  obtain ⟨p,hp,hlost⟩:=hl
  unfold weekF at hp
  obtain ⟨i,hi,rfl⟩:=List.mem_map.1 hp
  have hu:=uniq_get h (i:=i) (by simpa using hi)
  have h1:=(lastI_spec _ _ hu.1).1
  have h2:=(lastI_spec _ _ hu.2).1
  unfold lostB at hlost
  simp at hlost
  omega
theorem trueW_weekF {s:Schl} {a:List Bool} (hl:a.length=wkVars s+1) (h0:a.getD 0 false=false) (h:(List.range s.lessons.length).all (uniqB s a)=true):TrueW s (weekF s a) a:=by
 refine ⟨hl,h0,fun i j hi hj=>?_,fun i j hi hj=>?_⟩
 ·have hu:=(lastI_spec _ _ (uniq_get h hi).1).2 j hj
  rw [plc_weekF hi]
  unfold slotP at hu
  unfold wkAt bitG at hu
  rw [if_pos ⟨⟨by omega,by omega⟩,by omega,by omega⟩] at hu
  have e:((i:Int)*s.slots.length+j+1)=((i*s.slots.length+j+1:Nat):Int):=by push_cast;rfl
  rw [e,Int.toNat_natCast,decide_eq_true (Int.natCast_nonneg _),Bool.true_and] at hu
  rw [hu,Bool.eq_iff_iff]
  simp only [decide_eq_true_eq]
  constructor
  ·intro h;unfold slotP wkAt bitG;omega
  ·intro h;unfold slotP wkAt bitG at h;omega
 ·have hu:=(lastI_spec _ _ (uniq_get h hi).2).2 j hj
  rw [plc_weekF hi]
  unfold roomP at hu
  unfold wkIn bitG at hu
  rw [if_pos ⟨⟨by omega,by omega⟩,by omega,by omega⟩] at hu
  have e:((s.lessons.length:Int)*s.slots.length+(i:Int)*s.rooms.length+j+1)=((s.lessons.length*s.slots.length+i*s.rooms.length+j+1:Nat):Int):=by push_cast;rfl
  rw [e,Int.toNat_natCast,decide_eq_true (Int.natCast_nonneg _),Bool.true_and] at hu
  rw [hu,Bool.eq_iff_iff]
  simp only [decide_eq_true_eq]
  constructor
  ·intro h;unfold roomP wkIn bitG;omega
  ·intro h;unfold roomP wkIn bitG at h;omega
theorem trueW_unique {s:Schl} {w:List Plc} {a b:List Bool} (ha:TrueW s w a) (hb:TrueW s w b):a=b:=by
 refine List.ext_getElem (by rw [ha.len,hb.len]) (fun v h1 h2=>?_)
 have ea:a.getD v false=a[v]:=by simp [List.getD,h1]
 have eb:b.getD v false=b[v]:=by simp [List.getD,h2]
 rw [<- ea,<- eb]
 have hv:v<wkVars s+1:=by rw [<- ha.len];exact h1
 unfold wkVars at hv
 cases v with
 | zero=>rw [ha.zero,hb.zero]
 | succ v =>
  by_cases hc:v<s.lessons.length*s.slots.length
  ·have hS:0<s.slots.length:=by
    rcases Nat.eq_zero_or_pos s.slots.length with h | h
    ·rw [h,Nat.mul_zero] at hc;omega
    ·exact h
   have hi:v / s.slots.length<s.lessons.length:=Nat.div_lt_of_lt_mul (by rw [Nat.mul_comm];exact hc)
   have hj:v % s.slots.length<s.slots.length:=Nat.mod_lt _ hS
   have e:=Nat.div_add_mod' v s.slots.length
   have h3:=ha.at_ _ _ hi hj
   have h4:=hb.at_ _ _ hi hj
   rw [e] at h3 h4
   rw [h3,h4]
  ·obtain ⟨u,rfl⟩:∃ u,v=s.lessons.length*s.slots.length+u:=⟨v - s.lessons.length*s.slots.length,by omega⟩
   rw [Nat.mul_add] at hv
   have hu:u<s.lessons.length*s.rooms.length:=by omega
   have hR:0<s.rooms.length:=by
    rcases Nat.eq_zero_or_pos s.rooms.length with h | h
    ·rw [h,Nat.mul_zero] at hu;omega
    ·exact h
   have hi:u / s.rooms.length<s.lessons.length:=Nat.div_lt_of_lt_mul (by rw [Nat.mul_comm];exact hu)
   have hj:u % s.rooms.length<s.rooms.length:=Nat.mod_lt _ hR
   have e:=Nat.div_add_mod' u s.rooms.length
   have h3:=ha.in_ _ _ hi hj
   have h4:=hb.in_ _ _ hi hj
   rw [Nat.add_assoc (s.lessons.length*s.slots.length) _ _,e] at h3 h4
   rw [h3,h4]
end Go.Chalk
/- The assignment of a week, as week.True builds it. No program is named here. -/
namespace Go.Chalk
def setT (a:List Bool) (v:Int):List Bool:=a.set v.toNat true
def trueK (s:Schl) (l:List Plc) (k:Nat):List Bool:=(List.range k).foldl (fun a (i:Nat)=>setT (setT a (wkAt s i (plcAt l i).slot)) (wkIn s i (plcAt l i).room)) (List.replicate (wkVars s+1) false)
theorem trueK_succ (s:Schl) (l:List Plc) (k:Nat):trueK s l (k+1)=setT (setT (trueK s l k) (wkAt s k (plcAt l k).slot)) (wkIn s k (plcAt l k).room):=by
 unfold trueK;rw [List.range_succ,List.foldl_append];rfl
theorem trueK_len (s:Schl) (l:List Plc) (k:Nat):(trueK s l k).length=wkVars s+1:=by
 induction k with
 | zero=>simp [trueK]
 | succ k ih=>rw [trueK_succ];simp [setT,ih]
def wkTrueF (s:Schl) (l:List Plc):List Bool×Int:=if weekCheck s l ≠ 0 then ([],weekCheck s l) else (trueK s l l.length,0)
theorem week_parts {s:Schl} {l:List Plc} (h:weekCheck s l=0):l.length=s.lessons.length/\∀ i,i<l.length->0<=(plcAt l i).slot/\(plcAt l i).slot<s.slots.length/\0<=(plcAt l i).room/\(plcAt l i).room<s.rooms.length:=by
 unfold weekCheck at h
 split at h
 ·rename_i h0;exact absurd h h0
 ·split at h
  ·cases h
  ·rename_i h1
   have h2:l.length=s.lessons.length/\l.any (lostB s)=false:=by
    constructor
    ·exact Decidable.byContradiction fun c=>h1 (.inl c)
    ·cases hc:l.any (lostB s) with
     | false=>rfl
     | true=>exact absurd (.inr hc) h1
   refine ⟨h2.1,fun i hi=>?_⟩
   have h3:lostB s l[i]=false:=by
    have:=List.any_eq_false.1 h2.2 l[i] (List.getElem_mem hi)
    simpa using this
   have h4:plcAt l i=l[i]:=by unfold plcAt;simp [hi]
   rw [h4]
   unfold lostB at h3
   simp only [Bool.or_eq_false_iff,Bool.not_eq_false',Bool.and_eq_true,decide_eq_true_eq] at h3
   omega
theorem at_inj {S i i' j j':Nat} (hj:j<S) (hj':j'<S) (h:i*S+j=i'*S+j'):i=i'/\j=j':=by
 have h1:(i*S+j) / S=i:=by rw [Nat.add_comm,Nat.mul_comm,Nat.add_mul_div_left _ _ (by omega),Nat.div_eq_of_lt hj];omega
 have h2:(i'*S+j') / S=i':=by rw [Nat.add_comm,Nat.mul_comm,Nat.add_mul_div_left _ _ (by omega),Nat.div_eq_of_lt hj'];omega
 have h3:i=i':=by rw [<- h1,h,h2]
 subst h3
 exact ⟨rfl,by omega⟩
theorem at_lt {S i j n:Nat} (hi:i<n) (hj:j<S):i*S+j<n*S:=by
 have:(i+1)*S<=n*S:=Nat.mul_le_mul_right S hi
 rw [Nat.add_mul,Nat.one_mul] at this
 omega
theorem getD_set (a:List Bool) (i j:Nat) (hi:i<a.length):(a.set i true).getD j false=if j=i then true else a.getD j false:=by
 rw [List.getD_eq_getElem?_getD,List.getElem?_set]
 by_cases h:i=j
 ·subst h;simp [hi]
 ·rw [if_neg h,if_neg (fun e=>h e.symm),List.getD_eq_getElem?_getD]
theorem trueK_inv {s:Schl} {l:List Plc} (h:weekCheck s l=0) (k:Nat) (hk:k<=l.length):(trueK s l k).getD 0 false=false /\
  (∀ i j:Nat,i<s.lessons.length->j<s.slots.length->(trueK s l k).getD (i*s.slots.length+j+1) false=decide (i<k/\(plcAt l i).slot=j)) /\
  (∀ i j:Nat,i<s.lessons.length->j<s.rooms.length->(trueK s l k).getD (s.lessons.length*s.slots.length+i*s.rooms.length+j+1) false=decide (i<k/\(plcAt l i).room=j)):=by
 obtain ⟨hl,hp⟩:=week_parts h
 induction k with
 | zero =>
  have h0:∀ n,(trueK s l 0).getD n false=false:=fun n=>by
   unfold trueK
   rw [List.range_zero,List.foldl_nil,List.getD_eq_getElem?_getD,List.getElem?_replicate]
   split <;> rfl
  exact ⟨h0 _,fun i j _ _=>by rw [h0];simp,fun i j _ _=>by rw [h0];simp⟩
 | succ k ih =>
  obtain ⟨i0,i1,i2⟩:=ih (by omega)
  obtain ⟨p1,p2,p3,p4⟩:=hp k (by omega)
  obtain ⟨sl,hsl⟩:=Int.eq_ofNat_of_zero_le p1
  obtain ⟨rm,hrm⟩:=Int.eq_ofNat_of_zero_le p3
  have hkl:k<s.lessons.length:=by omega
  have hs1:sl<s.slots.length:=by omega
  have hr1:rm<s.rooms.length:=by omega
  have e1:(wkAt s k (plcAt l k).slot).toNat=k*s.slots.length+sl+1:=by
   unfold wkAt;rw [if_pos ⟨⟨by omega,by omega⟩,by omega,by omega⟩,hsl]
   have:((k:Int)*s.slots.length+(sl:Int)+1)=((k*s.slots.length+sl+1:Nat):Int):=by push_cast;rfl
   rw [this,Int.toNat_natCast]
  have e2:(wkIn s k (plcAt l k).room).toNat=s.lessons.length*s.slots.length+k*s.rooms.length+rm+1:=by
   unfold wkIn;rw [if_pos ⟨⟨by omega,by omega⟩,by omega,by omega⟩,hrm]
   have:((s.lessons.length:Int)*s.slots.length+(k:Int)*s.rooms.length+(rm:Int)+1)=((s.lessons.length*s.slots.length+k*s.rooms.length+rm+1:Nat):Int):=by push_cast;rfl
   rw [this,Int.toNat_natCast]
  have hv:wkVars s=s.lessons.length*s.slots.length+s.lessons.length*s.rooms.length:=by unfold wkVars;rw [Nat.mul_add]
  have b1:=at_lt hkl hs1
  have b2:=at_lt hkl hr1
  have hlen:=trueK_len s l k
  have key:∀ n,(trueK s l (k+1)).getD n false=if n=s.lessons.length*s.slots.length+k*s.rooms.length+rm+1 then true else if n=k*s.slots.length+sl+1 then true else (trueK s l k).getD n false:=fun n=>by
   rw [trueK_succ]
   unfold setT
   rw [e1,e2,getD_set _ _ _ (by rw [List.length_set,hlen,hv];omega),getD_set _ _ _ (by rw [hlen,hv];omega)]
  refine ⟨?_,fun i j hi hj=>?_,fun i j hi hj=>?_⟩
  ·rw [key,if_neg (by omega),if_neg (by omega),i0]
  ·have b3:=at_lt hi hj
   rw [key,if_neg (by omega),i1 i j hi hj]
   by_cases hh:i*s.slots.length+j+1=k*s.slots.length+sl+1
   ·obtain ⟨rfl,rfl⟩:=at_inj (i:=i) (i':=k) hj hs1 (by omega)
    rw [if_pos rfl,hsl];simp
   ·rw [if_neg hh]
    by_cases hik:i=k
    ·subst hik
     have:sl ≠ j:=fun e=>hh (by rw [e])
     simp [hsl];omega
    ·rw [Bool.eq_iff_iff];simp only [decide_eq_true_eq]
     constructor
     ·rintro ⟨h1,h2⟩;exact ⟨by omega,h2⟩
     ·rintro ⟨h1,h2⟩;exact ⟨by omega,h2⟩
  ·have b3:=at_lt hi hj
   rw [key]
   by_cases hh:i*s.rooms.length+j=k*s.rooms.length+rm
   ·obtain ⟨rfl,rfl⟩:=at_inj hj hr1 hh
    rw [if_pos rfl,hrm];simp
   ·rw [if_neg (by omega),if_neg (by omega),i2 i j hi hj]
    by_cases hik:i=k
    ·subst hik
     have:rm ≠ j:=fun e=>hh (by rw [e])
     simp [hrm];omega
    ·rw [Bool.eq_iff_iff];simp only [decide_eq_true_eq]
     constructor
     ·rintro ⟨h1,h2⟩;exact ⟨by omega,h2⟩
     ·rintro ⟨h1,h2⟩;exact ⟨by omega,h2⟩
theorem trueW_true {s:Schl} {l:List Plc} (h:weekCheck s l=0):TrueW s l (trueK s l l.length):=by
 obtain ⟨hl,_⟩:=week_parts h
 obtain ⟨h0,h1,h2⟩:=trueK_inv h l.length (Nat.le_refl _)
 refine ⟨trueK_len _ _ _,h0,fun i j hi hj=>?_,fun i j hi hj=>?_⟩
 ·rw [h1 i j hi hj];simp only [show i<l.length by omega,true_and]
 ·rw [h2 i j hi hj];simp only [show i<l.length by omega,true_and]
end Go.Chalk
