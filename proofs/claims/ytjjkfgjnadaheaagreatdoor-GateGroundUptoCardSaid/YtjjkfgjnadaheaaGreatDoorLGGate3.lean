/- Joined texts: LawHold, Grd, Tuples, GrdW, TruP, GMay. -/
import Derived.Test.YtjjkfgjnadaheaaGreatDoorG06
import Derived.Test.YtjjkfgjnadaheaaGreatDoorLGGate2
set_option linter.unusedVariables false
set_option linter.unusedSimpArgs false
/- What can be evaluated: the parts of a formula. No program is named here. -/
namespace Go.Chalk
theorem walkL_all:∀ (l:List Frm) (a:List Bnd),walkL a l=0->∀ g∈l,walkF a g=0
 | f :: r,a,h,g,hg=>by
  rw [walkL] at h
  by_cases h1:walkF a f ≠ 0
  ·rw [if_pos h1] at h;exact absurd h h1
  ·rw [if_neg h1] at h
   rcases List.mem_cons.1 hg with rfl | hg
   ·exact Decidable.byContradiction h1
   ·exact walkL_all r a h g hg
theorem nodesL_all:∀ (l:List Frm),(nodesL l).all formedF=true->∀ g∈l,(nodesF g).all formedF=true
 | f :: r,h,g,hg=>by
  rw [nodesL,List.all_append,Bool.and_eq_true] at h
  rcases List.mem_cons.1 hg with rfl | hg
  ·exact h.1
  ·exact nodesL_all r h.2 g hg
theorem fsizes_mem:∀ (l:List Frm) (g:Frm),g∈l->g.size<=fsizes l/\g.depth<=fdepths l
 | f :: r,g,hg=>by
  rw [fsizes,fdepths]
  rcases List.mem_cons.1 hg with rfl | hg
  ·omega
  ·have:=fsizes_mem r g hg;omega
theorem broadL_base (s:Schl):∀ (l:List Frm) (n:Nat),n<=1048577->n<=broadL s l n
 | [],n,_=>by rw [broadL];exact Nat.le_refl _
 | f :: r,n,h=>by
  rw [broadL]
  have:=broadL_base s r (min (n+broadF s f) 1048577) (by omega)
  omega
theorem broadL_mem (s:Schl):∀ (l:List Frm) (n:Nat) (g:Frm),g∈l->broadF s g<=broadL s l n
 | f :: r,n,g,hg=>by
  rw [broadL]
  rcases List.mem_cons.1 hg with rfl | hg
  ·have h1:=broadL_base s r (min (n+broadF s g) 1048577) (by omega)
   have h2:=broadF_le s g
   omega
  ·exact broadL_mem s r _ g hg
theorem HoldsOk.inv {s:Schl} {w:List Plc} {env:List Ev} {kind:Int} {name:Bs} {n:Int} {binds:List Bnd} {fl:List Frm} (h:HoldsOk s w env (.mk kind name n [] binds fl)) :
  formedF (.mk kind name n [] binds fl)=true/\(nodesL fl).all formedF=true/\∃ bs,bindAll (evBinds env) binds=some bs/\walkL bs fl=0:=by
 have h1:=h.formed
 rw [nodesF,List.all_cons,Bool.and_eq_true] at h1
 refine ⟨h1.1,h1.2,?_⟩
 have h2:=h.walk
 rw [walkF_nil] at h2
 cases hb:bindAll (evBinds env) binds with
 | none=>rw [hb] at h2;cases h2
 | some bs=>rw [hb] at h2;exact ⟨bs,rfl,h2⟩
theorem HoldsOk.kid {s:Schl} {w:List Plc} {env:List Ev} {kind:Int} {name:Bs} {n:Int} {fl:List Frm} (h:HoldsOk s w env (.mk kind name n [] [] fl)) {g:Frm} (hg:g∈fl):HoldsOk s w env g:=by
 obtain ⟨h1,h2,bs,h3,h4⟩:=h.inv
 rw [bindAll] at h3
 cases h3
 have hs:=h.size
 have hd:=h.depth
 have hb:=h.broad
 rw [Frm.size] at hs
 rw [Frm.depth] at hd
 have hm:=fsizes_mem fl g hg
 rw [broadF] at hb
 have hk:=broadL_mem s fl 0 g hg
 have hl:=broadF_le s g
 have h1m:manyF s []=1:=rfl
 rw [h1m] at hb
 unfold timesF at hb
 exact ⟨h.week,h.may,nodesL_all fl h2 g hg,by omega,by omega,walkL_all fl _ h4 g hg,by omega⟩
theorem with_cons (env:List Ev) (b:Bnd) (r:List Bnd) (i:Nat) (u:List Nat):withF env (b :: r) (i :: u)=withF (env++[⟨b.name,b.sort,(i:Int)⟩]) r u:=by
 unfold withF;simp
theorem may_with {s:Schl}:∀ (binds:List Bnd) (env:List Ev) (t:List Nat) (bs:List Bnd),evMay s env=true->binds.all bndOk=true->bindAll (evBinds env) binds=some bs->t∈tuplesF (sizesF s binds)->evMay s (withF env binds t)=true/\evBinds (withF env binds t)=bs
 | [],env,t,bs,h,_,hb,_=>by
  rw [bindAll] at hb;cases hb
  have e:withF env [] t=env:=by unfold withF;simp
  rw [e];exact ⟨h,rfl⟩
 | b :: r,env,t,bs,h,hk,hb,ht=>by
  rw [List.all_cons,Bool.and_eq_true] at hk
  rw [bindAll] at hb
  split at hb
  ·cases hb
  ·rename_i hf
   rw [sizesF,List.map_cons,tuplesF,List.mem_flatMap] at ht
   obtain ⟨i,hi,hu⟩:=ht
   obtain ⟨u,hu',rfl⟩:=List.mem_map.1 hu
   rw [with_cons]
   have hm:evMay s (env++[⟨b.name,b.sort,(i:Int)⟩])=true:=evMay_snoc h hk.1 (by simpa using hf) (by simp) (by have:=List.mem_range.1 hi;simpa using this)
   exact may_with r _ u bs hm hk.2 (by rw [evBinds_snoc];exact hb) hu'
theorem HoldsOk.inst {s:Schl} {w:List Plc} {env:List Ev} {kind:Int} {name:Bs} {n:Int} {binds:List Bnd} {g:Frm} (h:HoldsOk s w env (.mk kind name n [] binds [g])) (hk:binds.all bndOk=true) :
  manyF s binds<=1048576/\∀ t∈tuplesF (sizesF s binds),HoldsOk s w (withF env binds t) g:=by
 obtain ⟨h1,h2,bs,h3,h4⟩:=h.inv
 have hs:=h.size
 have hd:=h.depth
 have hb:=h.broad
 rw [Frm.size] at hs
 rw [Frm.depth] at hd
 have hm:=fsizes_mem [g] g (by simp)
 rw [broadF,broadL,broadL] at hb
 have hl:=broadF_le s g
 have hp:1<=broadF s g:=by cases g;rw [broadF];omega
 have hml:=manyF_le s binds
 unfold timesF at hb
 have e0:min (0+broadF s g) 1048577=broadF s g:=by omega
 rw [e0] at hb
 have hmany:manyF s binds<=1048576:=by
  have:manyF s binds<=broadF s g*manyF s binds:=Nat.le_mul_of_pos_left _ (by omega)
  omega
 refine ⟨hmany,fun t ht=>?_⟩
 have hlen:=manyF_tuples hmany
 have hpos:0<(tuplesF (sizesF s binds)).length:=List.length_pos_of_mem ht
 have hbr:broadF s g<=1048576:=by
  have:broadF s g<=broadF s g*manyF s binds:=Nat.le_mul_of_pos_right _ (by omega)
  omega
 obtain ⟨m1,m2⟩:=may_with binds env t bs h.may hk h3 ht
 exact ⟨h.week,m1,nodesL_all _ h2 g (by simp),by omega,by omega,by rw [m2];exact walkL_all _ _ h4 g (by simp),hbr⟩
theorem findB_env (env:List Ev) (name:Bs):findB (evBinds env) name=env.findIdx? (fun x=>x.name==name):=by
 unfold findB evBinds;rw [List.findIdx?_map];rfl
theorem evOf_get {env:List Ev} {name:Bs} {i:Nat} (h:env.findIdx? (fun x=>x.name==name)=some i):∃ hi:i<env.length,evOf env name=env[i]:=by
 rw [List.findIdx?_eq_some_iff_getElem] at h
 obtain ⟨hi,h1,h2⟩:=h
 refine ⟨hi,?_⟩
 unfold evOf
 have:env.find? (fun x=>x.name==name)=some env[i]:=by
  rw [List.find?_eq_some_iff_getElem]
  exact ⟨h1,i,hi,rfl,fun j hj=>by simpa using h2 j hj⟩
 rw [this];rfl
theorem term_found {s:Schl} {env:List Ev} {t:Trm} (hm:evMay s env=true) (hk:t.kind ≠ 1) (hs:(sortF (evBinds env) t).2=0) :
  (env.findIdx? (fun x=>x.name==t.name)).isSome=true/\0<=(evOf env t.name).at_/\(evOf env t.name).at_<(schCount s (evOf env t.name).sort:Int)/\(t.kind=2->(sortF (evBinds env) t).1=(evOf env t.name).sort)/\(t.kind ≠ 2->(takesF t.kind).1=(evOf env t.name).sort):=by
 unfold sortF at hs ⊢
 rw [if_neg hk] at hs ⊢
 rw [findB_env] at hs ⊢
 cases hf:env.findIdx? (fun x=>x.name==t.name) with
 | none=>rw [hf] at hs;cases hs
 | some i =>
  rw [hf] at hs
  obtain ⟨hi,he⟩:=evOf_get hf
  have hb:(evBinds env)[i]?=some ⟨env[i].name,env[i].sort⟩:=by simp [evBinds,hi]
  simp only [hb] at hs ⊢
  rw [he]
  unfold evMay at hm
  rw [Bool.and_eq_true,Bool.not_eq_true',List.any_eq_false] at hm
  have ho:=hm.2 _ (List.getElem_mem hi)
  unfold evOdd at ho
  simp only [Bool.or_eq_true,decide_eq_true_eq,not_or] at ho
  refine ⟨rfl,by omega,by omega,fun h2=>by rw [if_pos h2],fun h2=>?_⟩
  rw [if_neg h2] at hs
  split at hs
  ·cases hs
  ·rename_i h3;exact Decidable.byContradiction h3
end Go.Chalk
/- What ground's functions compute, and the plain law: a ground formula's value under a week's assignment is the formula's value in the week. No program is named here. -/
namespace Go.Chalk
def bitG (a:List Bool) (v:Int):Bool:=decide (0<=v)&&a.getD v.toNat false
mutual
/-- ref10.Value -/
def valG:Tr->List Bool->Bool
 | .mk kind v k l,a =>
  if kind=1 then v==1
  else if kind=2 then bitG a v
  else if kind=3 then notG l a
  else if kind=4 then decide (cntG l a=l.length)
  else if kind=5 then decide (0<cntG l a)
  else decide (k<=(cntG l a:Int))
/-- Whether there is a first tree, and it is false. -/
def notG:List Tr->List Bool->Bool
 | [],_=>false
 | t :: _,a=>!(valG t a)
/-- How many of the trees are true. -/
def cntG:List Tr->List Bool->Nat
 | [],_=>0
 | t :: r,a=>(if valG t a then 1 else 0)+cntG r a
end
theorem cntG_eq (a:List Bool):∀ l:List Tr,cntG l a=l.countP (valG · a)
 | []=>rfl
 | t :: r=>by rw [cntG,cntG_eq a r,List.countP_cons];omega
def wkAt (s:Schl) (i j:Int):Int:=if (0<=i/\i<s.lessons.length)/\0<=j/\j<s.slots.length then i*s.slots.length+j+1 else 0
def wkIn (s:Schl) (i j:Int):Int:=if (0<=i/\i<s.lessons.length)/\0<=j/\j<s.rooms.length then s.lessons.length*s.slots.length+i*s.rooms.length+j+1 else 0
def wkVars (s:Schl):Nat:=s.lessons.length*(s.slots.length+s.rooms.length)
def firstW (s:Schl):List Plc:=List.replicate s.lessons.length ⟨0,0⟩
mutual
/-- maker.tree -/
def gtF (s:Schl):List Ev->Frm->Tr
 | env,.mk kind name n terms binds l =>
  if kind=10 then .mk 3 0 0 (gtL s env l)
  else if kind=11 then .mk 4 0 0 (gtL s env l)
  else if kind=12 then .mk 5 0 0 (gtL s env l)
  else if kind=13 then .mk 5 0 0 [.mk 3 0 0 [gtAt s env l 0],gtAt s env l 1]
  else if kind=14 then .mk 4 0 0 ((tuplesF (sizesF s binds)).map (fun t=>gtAt s (withF env binds t) l 0))
  else if kind=15 then .mk 5 0 0 ((tuplesF (sizesF s binds)).map (fun t=>gtAt s (withF env binds t) l 0))
  else if kind=16 then .mk 6 0 n ((tuplesF (sizesF s binds)).map (fun t=>gtAt s (withF env binds t) l 0))
  else if kind=17 then .mk 3 0 0 [.mk 6 0 (min (n+1) 1099511627776) ((tuplesF (sizesF s binds)).map (fun t=>gtAt s (withF env binds t) l 0))]
  else if kind=3 then .mk 2 (wkAt s (evOf env (terms.headD ⟨0,[],0⟩).name).at_ (evOf env ((terms.drop 1).headD ⟨0,[],0⟩).name).at_) 0 []
  else if kind=4 then .mk 2 (wkIn s (evOf env (terms.headD ⟨0,[],0⟩).name).at_ (evOf env ((terms.drop 1).headD ⟨0,[],0⟩).name).at_) 0 []
  else .mk 1 (if (evHolds s (firstW s) env (.mk kind name n terms binds l)).1 then 1 else 0) 0 []
def gtL (s:Schl):List Ev->List Frm->List Tr
 | _,[]=>[]
 | env,f :: r=>gtF s env f :: gtL s env r
def gtAt (s:Schl):List Ev->List Frm->Nat->Tr
 | _,[],_=>.mk 0 0 0 []
 | env,f :: _,0=>gtF s env f
 | env,_ :: r,i+1=>gtAt s env r i
end
structure TrueW (s:Schl) (w:List Plc) (a:List Bool):Prop where
 len:a.length=wkVars s+1
 zero:a.getD 0 false=false
 at_:∀ i j:Nat,i<s.lessons.length->j<s.slots.length->a.getD (i*s.slots.length+j+1) false=decide ((plcAt w i).slot=j)
 in_:∀ i j:Nat,i<s.lessons.length->j<s.rooms.length->a.getD (s.lessons.length*s.slots.length+i*s.rooms.length+j+1) false=decide ((plcAt w i).room=j)
theorem TrueW.wkAt {s:Schl} {w:List Plc} {a:List Bool} (h:TrueW s w a) {i j:Int} (hi:0<=i/\i<s.lessons.length) (hj:0<=j/\j<s.slots.length):bitG a (wkAt s i j)=((plcAt w i).slot==j):=by
 obtain ⟨i',rfl⟩:=Int.eq_ofNat_of_zero_le hi.1
 obtain ⟨j',rfl⟩:=Int.eq_ofNat_of_zero_le hj.1
 unfold Chalk.wkAt bitG
 rw [if_pos ⟨hi,hj⟩]
 have e:((i':Int)*s.slots.length+j'+1)=((i'*s.slots.length+j'+1:Nat):Int):=by push_cast;rfl
 rw [e,Int.toNat_natCast,h.at_ i' j' (by omega) (by omega),decide_eq_true (Int.natCast_nonneg _),Bool.true_and]
 rw [Bool.eq_iff_iff];simp
theorem TrueW.wkIn {s:Schl} {w:List Plc} {a:List Bool} (h:TrueW s w a) {i j:Int} (hi:0<=i/\i<s.lessons.length) (hj:0<=j/\j<s.rooms.length):bitG a (wkIn s i j)=((plcAt w i).room==j):=by
 obtain ⟨i',rfl⟩:=Int.eq_ofNat_of_zero_le hi.1
 obtain ⟨j',rfl⟩:=Int.eq_ofNat_of_zero_le hj.1
 unfold Chalk.wkIn bitG
 rw [if_pos ⟨hi,hj⟩]
 have e:((s.lessons.length:Int)*s.slots.length+(i':Int)*s.rooms.length+j'+1)=((s.lessons.length*s.slots.length+i'*s.rooms.length+j'+1:Nat):Int):=by push_cast;rfl
 rw [e,Int.toNat_natCast,h.in_ i' j' (by omega) (by omega),decide_eq_true (Int.natCast_nonneg _),Bool.true_and]
 rw [Bool.eq_iff_iff];simp
theorem asked_in {s:Schl} {env:List Ev} {t:Trm} {q:Int} (hm:evMay s env=true) (h0:(sortF (evBinds env) t).2=0) (h1:(sortF (evBinds env) t).1=q) (hq:q=1∨q=2∨q=3):t.kind=2/\0<=(evOf env t.name).at_/\(evOf env t.name).at_<(schCount s q:Int):=by
 have hk:t.kind ≠ 1:=fun h=>by
  unfold sortF at h1;rw [if_pos h] at h1
  simp only at h1;omega
 obtain ⟨g1,g2,g3,g4,g5⟩:=term_found hm hk h0
 by_cases h2:t.kind=2
 ·refine ⟨h2,g2,?_⟩
  rw [<- h1,g4 h2];exact g3
 ·exfalso
  unfold sortF at h0 h1
  rw [if_neg hk] at h0 h1
  split at h1
  ·simp only at h1;omega
  ·rename_i i hi
   rw [hi] at h0
   simp only at h0
   split at h1
   ·simp only at h1;omega
   ·rename_i b hb
    rw [hb] at h0
    simp only [h2,if_false] at h0 h1
    split at h1
    ·simp only at h1;omega
    ·simp only at h1
     unfold takesF at h1
     repeat' split at h1
     all_goals simp only at h1;omega
theorem gtL_eq (s:Schl) (env:List Ev):∀ l:List Frm,gtL s env l=l.map (gtF s env)
 | []=>by rw [gtL];rfl
 | f :: r=>by rw [gtL,gtL_eq s env r];rfl
theorem gt_cnt (s:Schl) (w:List Plc) (a:List Bool) (ts:List (List Nat)) (k:List Nat->Tr) (p:List Nat->Bool) (h:∀ t∈ts,valG (k t) a=p t):cntG (ts.map k) a=ts.countP p:=by
 rw [cntG_eq,List.countP_map]
 exact List.countP_congr (fun t ht=>by simp [h t ht])
theorem valG_k {kind v k:Int} {l:List Tr} {a:List Bool}:valG (.mk kind v k l) a=if kind=1 then v==1 else if kind=2 then bitG a v else if kind=3 then notG l a else if kind=4 then decide (cntG l a=l.length) else if kind=5 then decide (0<cntG l a) else decide (k<=(cntG l a:Int)):=by rw [valG]
theorem HoldsOk.week_swap {s:Schl} {w v:List Plc} {env:List Ev} {f:Frm} (h:HoldsOk s w env f) (hv:weekCheck s v=0):HoldsOk s v env f:=⟨hv,h.may,h.formed,h.size,h.depth,h.walk,h.broad⟩
theorem atom_notw (s:Schl) (w v:List Plc) (env:List Ev) (kind:Int) (name:Bs) (n:Int) (terms:List Trm) (binds:List Bnd) (l:List Frm) (h3:kind ≠ 3) (h4:kind ≠ 4) (hk:kind<=9) (hf:formedF (.mk kind name n terms binds l)=true):holdsF s w env (.mk kind name n terms binds l)=holdsF s v env (.mk kind name n terms binds l):=by
 refine holdsF_static s w v _ env ?_
 obtain ⟨p1,p2,p3,p4,p5⟩:=parts_of hf
 rcases arity_cases p1 with ⟨hl,_⟩ | ⟨_,hk2⟩ | ⟨_,hk2⟩ | ⟨_,hk2⟩
 ·obtain rfl:=List.length_eq_zero_iff.1 hl
  rw [staticF];simp [staticL,h3,h4]
 ·omega
 ·omega
 ·omega
theorem gt_val (s:Schl) (w:List Plc) (a:List Bool) (ha:TrueW s w a) (h1:weekCheck s (firstW s)=0):∀ (m:Nat) (f:Frm) (env:List Ev),f.size<=m->HoldsOk s w env f->valG (gtF s env f) a=holdsF s w env f:=by
 intro m
 induction m with
 | zero=>intro f _ h;have:=f.size_pos;omega
 | succ m ih =>
  rintro ⟨kind,name,n,terms,binds,l⟩ env hm h
  rw [Frm.size] at hm
  have hfo:formedF (.mk kind name n terms binds l)=true:=(node_formed.1 h.formed).1
  obtain ⟨p1,p2,p3,p4,p5⟩:=parts_of hfo
  have hat:∀ t u:Trm,terms=[t,u]->kind ≠ 9->atomWalk (evBinds env) kind t u=0:=fun t u e h9=>by
   have:=h.walk
   rw [e,walkF_two,if_neg h9] at this
   exact this
  have hsz:∀ x∈l,x.size<=m:=fun x hx=>by have:=(fsizes_mem l x hx).1;omega
  rcases arity_cases p1 with ⟨hl,hk⟩ | ⟨hl,rfl⟩ | ⟨hl,hk⟩ | ⟨hl,hk⟩
  ·obtain rfl:=List.length_eq_zero_iff.1 hl
   have hk9:kind<=9:=by omega
   by_cases h3:kind=3
   ·subst h3
    obtain ⟨t,u,rfl⟩:=formed_atom (by decide) hfo
    have hw:=hat t u rfl (by decide)
    unfold atomWalk at hw
    have e1:(sortF (evBinds env) t).2=0:=by
     split at hw
     ·exact hw
     ·rename_i h0;exact Decidable.byContradiction h0
    rw [if_neg (by simp [e1])] at hw
    have e2:(sortF (evBinds env) t).1=1:=by
     split at hw
     ·cases hw
     ·rename_i h0;exact Decidable.byContradiction h0
    rw [if_neg (by rw [e2];decide)] at hw
    have e3:(sortF (evBinds env) u).2=0:=by
     split at hw
     ·exact hw
     ·rename_i h0;exact Decidable.byContradiction h0
    rw [if_neg (by simp [e3])] at hw
    have e4:(sortF (evBinds env) u).1=2:=by
     split at hw
     ·cases hw
     ·rename_i h0;exact Decidable.byContradiction h0
    obtain ⟨_,g1,g2⟩:=asked_in h.may e1 e2 (.inl rfl)
    obtain ⟨_,g3,g4⟩:=asked_in h.may e3 e4 (.inr (.inl rfl))
    rw [gtF,holdsF_two]
    simp only [Int.reduceEq,↓reduceIte,ne_eq,not_false_eq_true,List.headD_cons,List.drop_succ_cons,List.drop_zero]
    rw [valG_k,if_neg (by decide),if_pos rfl,ha.wkAt ⟨g1,by simpa [schCount_eq] using g2⟩ ⟨g3,by simpa [schCount_eq] using g4⟩]
    unfold atomHolds;simp only [Int.reduceEq,↓reduceIte]
   by_cases h4:kind=4
   ·subst h4
    obtain ⟨t,u,rfl⟩:=formed_atom (by decide) hfo
    have hw:=hat t u rfl (by decide)
    unfold atomWalk at hw
    have e1:(sortF (evBinds env) t).2=0:=by
     split at hw
     ·exact hw
     ·rename_i h0;exact Decidable.byContradiction h0
    rw [if_neg (by simp [e1])] at hw
    have e2:(sortF (evBinds env) t).1=1:=by
     split at hw
     ·cases hw
     ·rename_i h0;exact Decidable.byContradiction h0
    rw [if_neg (by rw [e2];decide)] at hw
    have e3:(sortF (evBinds env) u).2=0:=by
     split at hw
     ·exact hw
     ·rename_i h0;exact Decidable.byContradiction h0
    rw [if_neg (by simp [e3])] at hw
    have e4:(sortF (evBinds env) u).1=3:=by
     split at hw
     ·cases hw
     ·rename_i h0;exact Decidable.byContradiction h0
    obtain ⟨_,g1,g2⟩:=asked_in h.may e1 e2 (.inl rfl)
    obtain ⟨_,g3,g4⟩:=asked_in h.may e3 e4 (.inr (.inr rfl))
    rw [gtF,holdsF_two]
    simp only [Int.reduceEq,↓reduceIte,ne_eq,not_false_eq_true,List.headD_cons,List.drop_succ_cons,List.drop_zero]
    rw [valG_k,if_neg (by decide),if_pos rfl,ha.wkIn ⟨g1,by simpa [schCount_eq] using g2⟩ ⟨g3,by simpa [schCount_eq] using g4⟩]
    unfold atomHolds;simp only [Int.reduceEq,↓reduceIte]
   ·rw [gtF,evHolds_val (h.week_swap h1),atom_notw s (firstW s) w env kind name n terms binds [] h3 h4 hk9 hfo]
    rw [if_neg (by omega),if_neg (by omega),if_neg (by omega),if_neg (by omega),if_neg (by omega),if_neg (by omega),if_neg (by omega),if_neg (by omega),if_neg h3,if_neg h4,valG_k,if_pos rfl]
    cases holdsF s w env (.mk kind name n terms binds []) <;> rfl
  ·have ht:terms=[]:=by rcases p2 with h | h;exact h;unfold atomK at h;simp at h
   have hb:binds=[]:=by rcases p3 with h | h;exact h;unfold quantK at h;simp at h
   subst ht;subst hb
   obtain ⟨x,rfl⟩:=List.length_eq_one_iff.1 hl.symm.symm
   have hx:=ih x env (hsz x (by simp)) (h.kid (by simp))
   rw [gtF,if_pos rfl,valG_k,holdsF_nil]
   simp [gtL,notG,hx,holdsAt]
  ·have ht:terms=[]:=by rcases p2 with h | h;exact h;unfold atomK at h;simp at h;omega
   have hb:binds=[]:=by rcases p3 with h | h;exact h;unfold quantK at h;simp at h;omega
   subst ht;subst hb
   obtain ⟨x,y,rfl⟩:=len_two hl.symm.symm
   have hx:=ih x env (hsz x (by simp)) (h.kid (by simp))
   have hy:=ih y env (hsz y (by simp)) (h.kid (by simp))
   rw [gtF,holdsF_nil]
   rcases hk with rfl | rfl | rfl
   ·simp only [Int.reduceEq,↓reduceIte,valG_k,gtL,cntG,hx,hy,holdsAt,List.length_cons,List.length_nil]
    cases holdsF s w env x <;> cases holdsF s w env y <;> decide
   ·simp only [Int.reduceEq,↓reduceIte,valG_k,gtL,cntG,hx,hy,holdsAt,List.length_cons,List.length_nil]
    cases holdsF s w env x <;> cases holdsF s w env y <;> decide
   ·simp only [Int.reduceEq,↓reduceIte,valG_k,gtAt,cntG,notG,hx,hy,holdsAt,List.length_cons,List.length_nil]
    cases holdsF s w env x <;> cases holdsF s w env y <;> decide
  ·have ht:terms=[]:=by rcases p2 with h | h;exact h;unfold atomK at h;simp at h;omega
   subst ht
   obtain ⟨x,rfl⟩:=List.length_eq_one_iff.1 hl.symm.symm
   have hq:quantK kind=true:=by unfold quantK;simp;omega
   have hfq:=hfo
   rw [formed_quant hq] at hfq
   simp only [Bool.and_eq_true] at hfq
   have hbk:binds.all bndOk=true:=hfq.2.1.2
   have hnb:numberB n=true:=hfq.2.2
   have hin:=(h.inst hbk).2
   have hmn:=(h.inst hbk).1
   have hc:∀ t∈tuplesF (sizesF s binds),valG (gtAt s (withF env binds t) [x] 0) a=holdsAt s w (withF env binds t) [x] 0:=fun t ht=>by
    rw [gtAt,holdsAt];exact ih x _ (hsz x (by simp)) (hin t ht)
   have hcnt:=gt_cnt s w a (tuplesF (sizesF s binds)) (fun t=>gtAt s (withF env binds t) [x] 0) (fun t=>holdsAt s w (withF env binds t) [x] 0) hc
   have hle:=List.countP_le_length (p:=fun t=>holdsAt s w (withF env binds t) [x] 0) (l:=tuplesF (sizesF s binds))
   have hlen:=manyF_tuples hmn
   rw [gtF,holdsF_nil]
   rcases hk with rfl | rfl | rfl | rfl
   ·simp only [Int.reduceEq,↓reduceIte,valG_k,hcnt,List.length_map,quantHolds]
    rw [Bool.eq_iff_iff];simp
   ·simp only [Int.reduceEq,↓reduceIte,valG_k,hcnt,quantHolds]
   ·simp only [Int.reduceEq,↓reduceIte,valG_k,hcnt,quantHolds]
   ·simp only [Int.reduceEq,↓reduceIte,valG_k,notG,hcnt,quantHolds]
    have hn:n<=1099511627776:=by unfold numberB at hnb;simp at hnb;omega
    have h0:0<=n:=by unfold numberB at hnb;simp at hnb;omega
    have hbig:(tuplesF (sizesF s binds)).length<=1048576:=by omega
    rw [Bool.eq_iff_iff]
    simp only [Bool.not_eq_true',decide_eq_false_iff_not,decide_eq_true_eq]
    omega
end Go.Chalk
/- The tuples in lexicographic order, by the step from one to the next. No program is named here. -/
namespace Go.Chalk
def nextT:List Nat->List Nat->Option (List Nat)
 | k :: ks,x :: xs=>match nextT ks xs with
  | some ys=>some (x :: ys)
  | none=>if x+1=k then none else some ((x+1) :: List.replicate xs.length 0)
 | _,_=>none
theorem flat_get (T:List (List Nat)):∀ (l:List Nat) (i j:Nat) (hi:i<l.length) (hj:j<T.length),(l.flatMap (fun i=>T.map (i :: ·)))[i*T.length+j]?=some (l[i] :: T[j])
 | x :: l,0,j,hi,hj=>by
  rw [List.flatMap_cons,Nat.zero_mul,Nat.zero_add,List.getElem?_append_left (by simpa using hj)]
  simp [hj]
 | x :: l,i+1,j,hi,hj=>by
  rw [List.flatMap_cons,List.getElem?_append_right (by rw [List.length_map,Nat.add_mul];omega)]
  have e:(i+1)*T.length+j - (T.map (x :: ·)).length=i*T.length+j:=by rw [List.length_map,Nat.add_mul];omega
  rw [e,flat_get T l i j (by simpa using hi) hj]
  simp
theorem tuples_get (k:Nat) (r:List Nat) {i j:Nat} (hi:i<k) (hj:j<(tuplesF r).length):(tuplesF (k :: r))[i*(tuplesF r).length+j]?=some (i :: (tuplesF r)[j]):=by
 rw [tuplesF,flat_get (tuplesF r) (List.range k) i j (by simpa using hi) hj];simp
theorem tuples_pos:∀ l:List Nat,(∀ x∈l,0<x)->0<(tuplesF l).length:=fun l h=>by
 rw [tuples_length]
 induction l with
 | nil=>simp
 | cons x r ih=>rw [List.prod_cons];exact Nat.mul_pos (h x (by simp)) (ih (fun y hy=>h y (by simp [hy])))
theorem tuples_first:∀ l:List Nat,(∀ x∈l,0<x)->(tuplesF l)[0]?=some (List.replicate l.length 0)
 | [],_=>rfl
 | k :: r,h=>by
  have h0:=tuples_first r (fun y hy=>h y (by simp [hy]))
  have hp:=tuples_pos r (fun y hy=>h y (by simp [hy]))
  have:=tuples_get k r (i:=0) (j:=0) (h k (by simp)) hp
  rw [Nat.zero_mul,Nat.add_zero] at this
  rw [this]
  rw [List.getElem?_eq_getElem hp] at h0
  simp only [Option.some.injEq] at h0
  rw [h0];rfl
theorem tuples_next:∀ (l:List Nat),(∀ x∈l,0<x)->∀ (j:Nat) (t:List Nat),(tuplesF l)[j]?=some t->(tuplesF l)[j+1]?=nextT l t
 | [],_,j,t,h=>by
  cases j with
  | zero=>simp [tuplesF] at h ⊢;subst h;simp [nextT]
  | succ j=>simp [tuplesF] at h
 | k :: r,hpos,j,t,h=>by
  have hpr:∀ y∈r,0<y:=fun y hy=>hpos y (by simp [hy])
  have hp:=tuples_pos r hpr
  have hlen:(tuplesF (k :: r)).length=k*(tuplesF r).length:=by rw [tuples_length,List.prod_cons,tuples_length]
  obtain ⟨hj,_⟩:=List.getElem?_eq_some_iff.1 h
  rw [hlen] at hj
  have hm:j % (tuplesF r).length<(tuplesF r).length:=Nat.mod_lt _ hp
  have hd:j / (tuplesF r).length<k:=Nat.div_lt_of_lt_mul (by rw [Nat.mul_comm];exact hj)
  have hjj:j / (tuplesF r).length*(tuplesF r).length+j % (tuplesF r).length=j:=Nat.div_add_mod' j _
  have hg:=tuples_get k r hd hm
  rw [hjj,h] at hg
  simp only [Option.some.injEq] at hg
  subst hg
  have ih:=tuples_next r hpr (j % (tuplesF r).length) _ (List.getElem?_eq_getElem hm)
  simp only [nextT]
  rw [<- ih]
  by_cases hlast:j % (tuplesF r).length+1<(tuplesF r).length
  ·have h2:=tuples_get k r hd hlast
   rw [show j / (tuplesF r).length*(tuplesF r).length+(j % (tuplesF r).length+1)=j+1 from by omega] at h2
   rw [h2,List.getElem?_eq_getElem hlast]
  ·rw [List.getElem?_eq_none (by omega:(tuplesF r).length<=j % (tuplesF r).length+1)]
   simp only
   have hnext:(j / (tuplesF r).length+1)*(tuplesF r).length=j+1:=by
    rw [Nat.add_mul];omega
   by_cases hk:j / (tuplesF r).length+1=k
   ·rw [if_pos hk,List.getElem?_eq_none]
    rw [hlen,<- hk,hnext];exact Nat.le_refl _
   ·rw [if_neg hk]
    have h2:=tuples_get k r (i:=j / (tuplesF r).length+1) (j:=0) (by omega) hp
    rw [hnext,Nat.add_zero] at h2
    rw [h2]
    have h0:=tuples_first r hpr
    rw [List.getElem?_eq_getElem hp] at h0
    simp only [Option.some.injEq] at h0
    rw [h0]
    have hl:((tuplesF r)[j % (tuplesF r).length]).length=r.length:=((tuples_mem _ _).1 (List.getElem_mem hm)).1
    rw [hl]
theorem nextT_none:∀ (l t:List Nat),l.length=t.length->(∀ p (h:p<l.length) (h':p<t.length),t[p]+1=l[p])->nextT l t=none
 | [],[],_,_=>rfl
 | k :: ks,x :: xs,hl,h=>by
  rw [nextT,nextT_none ks xs (by simpa using hl) (fun p hp hp'=>h (p+1) (by simpa using hp) (by simpa using hp'))]
  simp only
  have h0:x+1=k:=h 0 (by simp) (by simp)
  rw [if_pos h0]
theorem nextT_at:∀ (l t:List Nat) (i:Nat) (hi:i<l.length) (hi':i<t.length),l.length=t.length->t[i]+1 ≠ l[i]->(∀ p (h:p<l.length) (h':p<t.length),i<p->t[p]+1=l[p])->nextT l t=some (t.take i++[t[i]+1]++List.replicate (t.length - 1 - i) 0)
 | k :: ks,x :: xs,0,hi,hi',hl,h0,h=>by
  rw [nextT,nextT_none ks xs (by simpa using hl) (fun p hp hp'=>h (p+1) (by simpa using hp) (by simpa using hp') (by omega))]
  simp only
  have h1:¬ (x+1=k):=h0
  rw [if_neg h1]
  simp
 | k :: ks,x :: xs,i+1,hi,hi',hl,h0,h=>by
  rw [nextT,nextT_at ks xs i (by simpa using hi) (by simpa using hi') (by simpa using hl) h0 (fun p hp hp' hip=>h (p+1) (by simpa using hp) (by simpa using hp') (by omega))]
  simp only [List.take_succ_cons,List.getElem_cons_succ,List.length_cons,List.cons_append]
  congr 3
  congr 1
  omega
end Go.Chalk
/- The plain law of the frame: its formulas are true exactly under the assignments of weeks. No program is named here. -/
namespace Go.Chalk
def oneT (l:List Int):Tr:=.mk 4 0 0 [.mk 6 0 1 (l.map (fun v=>.mk 2 v 0 [])),.mk 3 0 0 [.mk 6 0 2 (l.map (fun v=>.mk 2 v 0 []))]]
end Go.Chalk
/- The assignment of a week, as week.True builds it. No program is named here. -/
namespace Go.Chalk
def setT (a:List Bool) (v:Int):List Bool:=a.set v.toNat true
def trueK (s:Schl) (l:List Plc) (k:Nat):List Bool:=(List.range k).foldl (fun a (i:Nat)=>setT (setT a (wkAt s i (plcAt l i).slot)) (wkIn s i (plcAt l i).room)) (List.replicate (wkVars s+1) false)
theorem trueK_succ (s:Schl) (l:List Plc) (k:Nat):trueK s l (k+1)=setT (setT (trueK s l k) (wkAt s k (plcAt l k).slot)) (wkIn s k (plcAt l k).room):=by
 unfold trueK;rw [List.range_succ,List.foldl_append];rfl
theorem trueK_len (s:Schl) (l:List Plc) (k:Nat):(trueK s l k).length=wkVars s+1:=by
 induction k with
 | zero=>simp [trueK]
 | succ k ih=>rw [trueK_succ];simp [setT,ih]
def wkTrueF (s:Schl) (l:List Plc):List Bool×Int:=if weekCheck s l ≠ 0 then ([],weekCheck s l) else (trueK s l l.length,0)
theorem week_parts {s:Schl} {l:List Plc} (h:weekCheck s l=0):l.length=s.lessons.length/\∀ i,i<l.length->0<=(plcAt l i).slot/\(plcAt l i).slot<s.slots.length/\0<=(plcAt l i).room/\(plcAt l i).room<s.rooms.length:=by
 unfold weekCheck at h
 split at h
 ·rename_i h0;exact absurd h h0
 ·split at h
  ·cases h
  ·rename_i h1
   have h2:l.length=s.lessons.length/\l.any (lostB s)=false:=by
    constructor
    ·exact Decidable.byContradiction fun c=>h1 (.inl c)
    ·cases hc:l.any (lostB s) with
     | false=>rfl
     | true=>exact absurd (.inr hc) h1
   refine ⟨h2.1,fun i hi=>?_⟩
   have h3:lostB s l[i]=false:=by
    have:=List.any_eq_false.1 h2.2 l[i] (List.getElem_mem hi)
    simpa using this
   have h4:plcAt l i=l[i]:=by unfold plcAt;simp [hi]
   rw [h4]
   unfold lostB at h3
   simp only [Bool.or_eq_false_iff,Bool.not_eq_false',Bool.and_eq_true,decide_eq_true_eq] at h3
   omega
theorem at_inj {S i i' j j':Nat} (hj:j<S) (hj':j'<S) (h:i*S+j=i'*S+j'):i=i'/\j=j':=by
 have h1:(i*S+j) / S=i:=by rw [Nat.add_comm,Nat.mul_comm,Nat.add_mul_div_left _ _ (by omega),Nat.div_eq_of_lt hj];omega
 have h2:(i'*S+j') / S=i':=by rw [Nat.add_comm,Nat.mul_comm,Nat.add_mul_div_left _ _ (by omega),Nat.div_eq_of_lt hj'];omega
 have h3:i=i':=by rw [<- h1,h,h2]
 subst h3
 exact ⟨rfl,by omega⟩
theorem at_lt {S i j n:Nat} (hi:i<n) (hj:j<S):i*S+j<n*S:=by
 have:(i+1)*S<=n*S:=Nat.mul_le_mul_right S hi
 rw [Nat.add_mul,Nat.one_mul] at this
 omega
theorem getD_set (a:List Bool) (i j:Nat) (hi:i<a.length):(a.set i true).getD j false=if j=i then true else a.getD j false:=by
 rw [List.getD_eq_getElem?_getD,List.getElem?_set]
 by_cases h:i=j
 ·subst h;simp [hi]
 ·rw [if_neg h,if_neg (fun e=>h e.symm),List.getD_eq_getElem?_getD]
theorem trueK_inv {s:Schl} {l:List Plc} (h:weekCheck s l=0) (k:Nat) (hk:k<=l.length):(trueK s l k).getD 0 false=false /\
  (∀ i j:Nat,i<s.lessons.length->j<s.slots.length->(trueK s l k).getD (i*s.slots.length+j+1) false=decide (i<k/\(plcAt l i).slot=j)) /\
  (∀ i j:Nat,i<s.lessons.length->j<s.rooms.length->(trueK s l k).getD (s.lessons.length*s.slots.length+i*s.rooms.length+j+1) false=decide (i<k/\(plcAt l i).room=j)):=by
 obtain ⟨hl,hp⟩:=week_parts h
 induction k with
 | zero =>
  have h0:∀ n,(trueK s l 0).getD n false=false:=fun n=>by
   unfold trueK
   rw [List.range_zero,List.foldl_nil,List.getD_eq_getElem?_getD,List.getElem?_replicate]
   split <;> rfl
  exact ⟨h0 _,fun i j _ _=>by rw [h0];simp,fun i j _ _=>by rw [h0];simp⟩
 | succ k ih =>
  obtain ⟨i0,i1,i2⟩:=ih (by omega)
  obtain ⟨p1,p2,p3,p4⟩:=hp k (by omega)
  obtain ⟨sl,hsl⟩:=Int.eq_ofNat_of_zero_le p1
  obtain ⟨rm,hrm⟩:=Int.eq_ofNat_of_zero_le p3
  have hkl:k<s.lessons.length:=by omega
  have hs1:sl<s.slots.length:=by omega
  have hr1:rm<s.rooms.length:=by omega
  have e1:(wkAt s k (plcAt l k).slot).toNat=k*s.slots.length+sl+1:=by
   unfold wkAt;rw [if_pos ⟨⟨by omega,by omega⟩,by omega,by omega⟩,hsl]
   have:((k:Int)*s.slots.length+(sl:Int)+1)=((k*s.slots.length+sl+1:Nat):Int):=by push_cast;rfl
   rw [this,Int.toNat_natCast]
  have e2:(wkIn s k (plcAt l k).room).toNat=s.lessons.length*s.slots.length+k*s.rooms.length+rm+1:=by
   unfold wkIn;rw [if_pos ⟨⟨by omega,by omega⟩,by omega,by omega⟩,hrm]
   have:((s.lessons.length:Int)*s.slots.length+(k:Int)*s.rooms.length+(rm:Int)+1)=((s.lessons.length*s.slots.length+k*s.rooms.length+rm+1:Nat):Int):=by push_cast;rfl
   rw [this,Int.toNat_natCast]
  have hv:wkVars s=s.lessons.length*s.slots.length+s.lessons.length*s.rooms.length:=by unfold wkVars;rw [Nat.mul_add]
  have b1:=at_lt hkl hs1
  have b2:=at_lt hkl hr1
  have hlen:=trueK_len s l k
  have key:∀ n,(trueK s l (k+1)).getD n false=if n=s.lessons.length*s.slots.length+k*s.rooms.length+rm+1 then true else if n=k*s.slots.length+sl+1 then true else (trueK s l k).getD n false:=fun n=>by
   rw [trueK_succ]
   unfold setT
   rw [e1,e2,getD_set _ _ _ (by rw [List.length_set,hlen,hv];omega),getD_set _ _ _ (by rw [hlen,hv];omega)]
  refine ⟨?_,fun i j hi hj=>?_,fun i j hi hj=>?_⟩
  ·rw [key,if_neg (by omega),if_neg (by omega),i0]
  ·have b3:=at_lt hi hj
   rw [key,if_neg (by omega),i1 i j hi hj]
   by_cases hh:i*s.slots.length+j+1=k*s.slots.length+sl+1
   ·obtain ⟨rfl,rfl⟩:=at_inj (i:=i) (i':=k) hj hs1 (by omega)
    rw [if_pos rfl,hsl];simp
   ·rw [if_neg hh]
    by_cases hik:i=k
    ·subst hik
     have:sl ≠ j:=fun e=>hh (by rw [e])
     simp [hsl];omega
    ·rw [Bool.eq_iff_iff];simp only [decide_eq_true_eq]
     constructor
     ·rintro ⟨h1,h2⟩;exact ⟨by omega,h2⟩
     ·rintro ⟨h1,h2⟩;exact ⟨by omega,h2⟩
  ·have b3:=at_lt hi hj
   rw [key]
   by_cases hh:i*s.rooms.length+j=k*s.rooms.length+rm
   ·obtain ⟨rfl,rfl⟩:=at_inj hj hr1 hh
    rw [if_pos rfl,hrm];simp
   ·rw [if_neg (by omega),if_neg (by omega),i2 i j hi hj]
    by_cases hik:i=k
    ·subst hik
     have:rm ≠ j:=fun e=>hh (by rw [e])
     simp [hrm];omega
    ·rw [Bool.eq_iff_iff];simp only [decide_eq_true_eq]
     constructor
     ·rintro ⟨h1,h2⟩;exact ⟨by omega,h2⟩
     ·rintro ⟨h1,h2⟩;exact ⟨by omega,h2⟩
theorem trueW_true {s:Schl} {l:List Plc} (h:weekCheck s l=0):TrueW s l (trueK s l l.length):=by
 obtain ⟨hl,_⟩:=week_parts h
 obtain ⟨h0,h1,h2⟩:=trueK_inv h l.length (Nat.le_refl _)
 refine ⟨trueK_len _ _ _,h0,fun i j hi hj=>?_,fun i j hi hj=>?_⟩
 ·rw [h1 i j hi hj];simp only [show i<l.length by omega,true_and]
 ·rw [h2 i j hi hj];simp only [show i<l.length by omega,true_and]
end Go.Chalk
/- The trees of formulas are well-formed over the variables of the school. No program is named here. -/
namespace Go.Chalk
theorem may_const {n:Int} (b:Bool):mayB (.mk 1 (if b then 1 else 0) 0 []) n=true:=by
 cases b <;> simp [mayB,mayAll,nodeOk]
theorem may_var {v n:Int} (h:1<=v/\v<=n):mayB (.mk 2 v 0 []) n=true:=by simp [mayB,mayAll,nodeOk,h]
theorem may_not {t:Tr} {n:Int} (h:mayB t n=true):mayB (.mk 3 0 0 [t]) n=true:=by simp [mayB,mayAll,nodeOk,h]
theorem may_list {k n:Int} {l:List Tr} (hk:k=4∨k=5) (h:mayAll l n=true):mayB (.mk k 0 0 l) n=true:=by
 rcases hk with rfl | rfl <;> simp [mayB,nodeOk,h]
theorem may_least {k n:Int} {l:List Tr} (h0:0<=k) (h1:k<=1099511627776) (h:mayAll l n=true):mayB (.mk 6 0 k l) n=true:=by simp [mayB,nodeOk,h,h0,h1]
theorem may_map {ts:List (List Nat)} {k:List Nat->Tr} {n:Int} (h:∀ t∈ts,mayB (k t) n=true):mayAll (ts.map k) n=true:=by
 induction ts with
 | nil=>rfl
 | cons t r ih=>rw [List.map_cons,mayAll,h t (by simp),ih (fun x hx=>h x (by simp [hx]))];rfl
theorem wk_mul {a b i:Nat} (h:i<a):i*b+b<=a*b:=by
 have:=Nat.mul_le_mul_right b (show i+1<=a from h)
 rwa [Nat.add_mul,Nat.one_mul] at this
theorem wkAt_range {s:Schl} {i j:Int} (hi:0<=i/\i<s.lessons.length) (hj:0<=j/\j<s.slots.length):1<=wkAt s i j/\wkAt s i j<=wkVars s:=by
 unfold wkAt wkVars
 rw [if_pos ⟨hi,hj⟩]
 obtain ⟨a,rfl⟩:=Int.eq_ofNat_of_zero_le hi.1
 obtain ⟨b,rfl⟩:=Int.eq_ofNat_of_zero_le hj.1
 have h1:=wk_mul (a:=s.lessons.length) (b:=s.slots.length) (i:=a) (by omega)
 have h2:s.lessons.length*s.slots.length<=s.lessons.length*(s.slots.length+s.rooms.length):=Nat.mul_le_mul_left _ (by omega)
 rw [show ((a:Int)*(s.slots.length:Int))=((a*s.slots.length:Nat):Int) from by simp]
 omega
theorem wkIn_range {s:Schl} {i j:Int} (hi:0<=i/\i<s.lessons.length) (hj:0<=j/\j<s.rooms.length):1<=wkIn s i j/\wkIn s i j<=wkVars s:=by
 unfold wkIn wkVars
 rw [if_pos ⟨hi,hj⟩]
 obtain ⟨a,rfl⟩:=Int.eq_ofNat_of_zero_le hi.1
 obtain ⟨b,rfl⟩:=Int.eq_ofNat_of_zero_le hj.1
 have h1:=wk_mul (a:=s.lessons.length) (b:=s.rooms.length) (i:=a) (by omega)
 have h2:s.lessons.length*(s.slots.length+s.rooms.length)=s.lessons.length*s.slots.length+s.lessons.length*s.rooms.length:=Nat.mul_add _ _ _
 rw [show ((a:Int)*(s.rooms.length:Int))=((a*s.rooms.length:Nat):Int) from by simp,show ((s.lessons.length:Int)*(s.slots.length:Int))=((s.lessons.length*s.slots.length:Nat):Int) from by simp]
 omega
theorem gt_may (s:Schl) (w:List Plc):∀ (m:Nat) (f:Frm) (env:List Ev),f.size<=m->HoldsOk s w env f->mayB (gtF s env f) (wkVars s)=true:=by
 intro m
 induction m with
 | zero=>intro f _ h;have:=f.size_pos;omega
 | succ m ih =>
  rintro ⟨kind,name,n,terms,binds,l⟩ env hm h
  rw [Frm.size] at hm
  have hfo:formedF (.mk kind name n terms binds l)=true:=(node_formed.1 h.formed).1
  obtain ⟨p1,p2,p3,p4,p5⟩:=parts_of hfo
  have hat:∀ t u:Trm,terms=[t,u]->kind ≠ 9->atomWalk (evBinds env) kind t u=0:=fun t u e h9=>by
   have:=h.walk
   rw [e,walkF_two,if_neg h9] at this
   exact this
  have hsz:∀ x∈l,x.size<=m:=fun x hx=>by have:=(fsizes_mem l x hx).1;omega
  rcases arity_cases p1 with ⟨hl,hk⟩ | ⟨hl,rfl⟩ | ⟨hl,hk⟩ | ⟨hl,hk⟩
  ·obtain rfl:=List.length_eq_zero_iff.1 hl
   have hk9:kind<=9:=by omega
   by_cases h3:kind=3
   ·subst h3
    obtain ⟨t,u,rfl⟩:=formed_atom (by decide) hfo
    have hw:=hat t u rfl (by decide)
    unfold atomWalk at hw
    have e1:(sortF (evBinds env) t).2=0:=by
     split at hw
     ·exact hw
     ·rename_i h0;exact Decidable.byContradiction h0
    rw [if_neg (by simp [e1])] at hw
    have e2:(sortF (evBinds env) t).1=1:=by
     split at hw
     ·cases hw
     ·rename_i h0;exact Decidable.byContradiction h0
    rw [if_neg (by rw [e2];decide)] at hw
    have e3:(sortF (evBinds env) u).2=0:=by
     split at hw
     ·exact hw
     ·rename_i h0;exact Decidable.byContradiction h0
    rw [if_neg (by simp [e3])] at hw
    have e4:(sortF (evBinds env) u).1=2:=by
     split at hw
     ·cases hw
     ·rename_i h0;exact Decidable.byContradiction h0
    obtain ⟨_,g1,g2⟩:=asked_in h.may e1 e2 (.inl rfl)
    obtain ⟨_,g3,g4⟩:=asked_in h.may e3 e4 (.inr (.inl rfl))
    rw [gtF]
    simp only [Int.reduceEq,↓reduceIte,List.headD_cons,List.drop_succ_cons,List.drop_zero]
    exact may_var (wkAt_range ⟨g1,by simpa [schCount_eq] using g2⟩ ⟨g3,by simpa [schCount_eq] using g4⟩)
   by_cases h4:kind=4
   ·subst h4
    obtain ⟨t,u,rfl⟩:=formed_atom (by decide) hfo
    have hw:=hat t u rfl (by decide)
    unfold atomWalk at hw
    have e1:(sortF (evBinds env) t).2=0:=by
     split at hw
     ·exact hw
     ·rename_i h0;exact Decidable.byContradiction h0
    rw [if_neg (by simp [e1])] at hw
    have e2:(sortF (evBinds env) t).1=1:=by
     split at hw
     ·cases hw
     ·rename_i h0;exact Decidable.byContradiction h0
    rw [if_neg (by rw [e2];decide)] at hw
    have e3:(sortF (evBinds env) u).2=0:=by
     split at hw
     ·exact hw
     ·rename_i h0;exact Decidable.byContradiction h0
    rw [if_neg (by simp [e3])] at hw
    have e4:(sortF (evBinds env) u).1=3:=by
     split at hw
     ·cases hw
     ·rename_i h0;exact Decidable.byContradiction h0
    obtain ⟨_,g1,g2⟩:=asked_in h.may e1 e2 (.inl rfl)
    obtain ⟨_,g3,g4⟩:=asked_in h.may e3 e4 (.inr (.inr rfl))
    rw [gtF]
    simp only [Int.reduceEq,↓reduceIte,List.headD_cons,List.drop_succ_cons,List.drop_zero]
    exact may_var (wkIn_range ⟨g1,by simpa [schCount_eq] using g2⟩ ⟨g3,by simpa [schCount_eq] using g4⟩)
   ·rw [gtF]
    rw [if_neg (by omega),if_neg (by omega),if_neg (by omega),if_neg (by omega),if_neg (by omega),if_neg (by omega),if_neg (by omega),if_neg (by omega),if_neg h3,if_neg h4]
    exact may_const _
  ·have ht:terms=[]:=by rcases p2 with h | h;exact h;unfold atomK at h;simp at h
   have hb:binds=[]:=by rcases p3 with h | h;exact h;unfold quantK at h;simp at h
   subst ht;subst hb
   obtain ⟨x,rfl⟩:=List.length_eq_one_iff.1 hl.symm.symm
   have hx:=ih x env (hsz x (by simp)) (h.kid (by simp))
   rw [gtF,if_pos rfl,gtL,gtL]
   exact may_not hx
  ·have ht:terms=[]:=by rcases p2 with h | h;exact h;unfold atomK at h;simp at h;omega
   have hb:binds=[]:=by rcases p3 with h | h;exact h;unfold quantK at h;simp at h;omega
   subst ht;subst hb
   obtain ⟨x,y,rfl⟩:=len_two hl.symm.symm
   have hx:=ih x env (hsz x (by simp)) (h.kid (by simp))
   have hy:=ih y env (hsz y (by simp)) (h.kid (by simp))
   rw [gtF]
   rcases hk with rfl | rfl | rfl
   ·simp only [Int.reduceEq,↓reduceIte,gtL]
    exact may_list (.inl rfl) (by simp [mayAll,hx,hy])
   ·simp only [Int.reduceEq,↓reduceIte,gtL]
    exact may_list (.inr rfl) (by simp [mayAll,hx,hy])
   ·simp only [Int.reduceEq,↓reduceIte,gtAt]
    exact may_list (.inr rfl) (by simp [mayAll,may_not hx,hy])
  ·have ht:terms=[]:=by rcases p2 with h | h;exact h;unfold atomK at h;simp at h;omega
   subst ht
   obtain ⟨x,rfl⟩:=List.length_eq_one_iff.1 hl.symm.symm
   have hq:quantK kind=true:=by unfold quantK;simp;omega
   have hfq:=hfo
   rw [formed_quant hq] at hfq
   simp only [Bool.and_eq_true] at hfq
   have hbk:binds.all bndOk=true:=hfq.2.1.2
   have hnb:numberB n=true:=hfq.2.2
   have hin:=(h.inst hbk).2
   have hmn:=(h.inst hbk).1
   have hn0:0<=n/\n<=1099511627776:=by unfold numberB at hnb;simpa using hnb
   have hall:mayAll ((tuplesF (sizesF s binds)).map (fun t=>gtAt s (withF env binds t) [x] 0)) (wkVars s)=true:=may_map (fun t ht=>by
    rw [gtAt];exact ih x _ (hsz x (by simp)) (hin t ht))
   rw [gtF]
   rcases hk with rfl | rfl | rfl | rfl
   ·simp only [Int.reduceEq,↓reduceIte]
    exact may_list (.inl rfl) hall
   ·simp only [Int.reduceEq,↓reduceIte]
    exact may_list (.inr rfl) hall
   ·simp only [Int.reduceEq,↓reduceIte]
    exact may_least hn0.1 hn0.2 hall
   ·simp only [Int.reduceEq,↓reduceIte]
    exact may_not (may_least (by omega) (by omega) hall)
end Go.Chalk
