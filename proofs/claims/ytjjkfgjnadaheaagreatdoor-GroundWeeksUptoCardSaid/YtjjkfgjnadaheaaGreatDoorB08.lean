/- Joined texts: LawNnf, LawAdd, LawHold, Grd. -/
import Derived.Test.YtjjkfgjnadaheaaGreatDoorB07
import Derived.Test.YtjjkfgjnadaheaaGreatDoorB05
set_option linter.unusedVariables false
set_option linter.unusedSimpArgs false

/- The plain law of negation normal forms. No program is named here. -/
namespace Go.Chalk
def alwaysF (kind n:Int):Bool:=decide (kind=1)||(decide (kind=16)&&decide (n=0))||(decide (kind=17)&&decide (n=1099511627776))
def dualK (k:Int):Int:=if k=1 then 2 else if k=2 then 1 else if k=11 then 12 else if k=12 then 11 else if k=14 then 15 else if k=15 then 14 else if k=16 then 17 else if k=17 then 16 else 0
def negS (name:Bs):Bs:=if name=[61] then [33,61] else if name=[33,61] then [61] else if name=[60] then [62,61] else if name=[62,61] then [60] else if name=[60,61] then [62] else if name=[62] then [60,61] else []
def noFrm:Frm:=.mk 2 [] 0 [] [] []
def yesFrm:Frm:=.mk 1 [] 0 [] [] []
def zeroFrm:Frm:=.mk 0 [] 0 [] [] []
def rightNode (kind:Int) (name:Bs) (n:Int) (terms:List Trm) (binds:List Bnd) (l same flip:List Frm) (turn:Bool):Frm :=
 if (alwaysF kind n&&turn)||(decide (kind=2)&&!turn) then noFrm
 else if alwaysF kind n||decide (kind=2) then yesFrm
 else if kind=10 then flip.headD zeroFrm
 else if kind=13 then .mk (if turn then 11 else 12) [] 0 [] [] [flip.headD zeroFrm,(same.drop 1).headD zeroFrm]
 else if atomK kind&&turn&&decide (kind ≠ 9) then .mk 10 [] 0 [] [] [.mk kind name n terms binds l]
 else .mk (if turn&&decide (kind ≠ 9) then dualK kind else kind) (if turn&&decide (kind=9) then negS name else name) (if turn then (if kind=16 then n - 1 else if kind=17 then n+1 else n) else n) terms binds (if turn&&countK kind then flip else same)
mutual
/-- formula.right -/
def rightF:Frm->Bool->Frm
 | .mk kind name n terms binds l,turn=>rightNode kind name n terms binds l (rightL l turn) (rightL l (!turn)) turn
def rightL:List Frm->Bool->List Frm
 | [],_=>[]
 | f :: r,turn=>rightF f turn :: rightL r turn
end
def nnfF (f:Frm):Frm×Int:=if frmCheck f ≠ 0 then (zeroFrm,frmCheck f) else (rightF f false,0)

theorem parts_of {kind:Int} {name:Bs} {n:Int} {terms:List Trm} {binds:List Bnd} {l:List Frm} (h:formedF (.mk kind name n terms binds l)=true) :
  arityF kind=some l.length/\(terms=[]∨atomK kind=true)/\(binds=[]∨quantK kind=true)/\(n=0∨countK kind=true)/\(name=[]∨kind=9):=by
 rw [formedF_mk,Bool.and_eq_true,partsOk_mk] at h
 have h:=h.1
 simp only [Bool.and_eq_true,Bool.or_eq_true,beq_iff_eq,List.isEmpty_iff,decide_eq_true_eq] at h
 obtain ⟨⟨⟨⟨h1,h2⟩,h3⟩,h4⟩,h5⟩:=h
 exact ⟨h1,h2,h3,h4,h5⟩
theorem arity_cases {kind:Int} {n:Nat} (h:arityF kind=some n):(n=0/\(kind=1∨kind=2∨kind=3∨kind=4∨kind=5∨kind=6∨kind=7∨kind=8∨kind=9))∨(n=1/\kind=10)∨(n=2/\(kind=11∨kind=12∨kind=13))∨(n=1/\(kind=14∨kind=15∨kind=16∨kind=17)):=by
 unfold arityF at h
 split at h
 ·cases h
 split at h
 ·simp at h;exact .inl ⟨h.symm,by omega⟩
 split at h
 ·simp at h;exact .inr (.inl ⟨h.symm,by assumption⟩)
 split at h
 ·simp at h;exact .inr (.inr (.inl ⟨h.symm,by omega⟩))
 ·simp at h;exact .inr (.inr (.inr ⟨h.symm,by omega⟩))
theorem len_two {α:Type} {l:List α} (h:l.length=2):∃ a b,l=[a,b]:=by
 match l,h with
 | [a,b],_=>exact ⟨a,b,rfl⟩
theorem cmp_neg {name:Bs} (h:cmpL.contains name=true) (a b:Int):cmpHolds (negS name) a b = !(cmpHolds name a b)/\cmpL.contains (negS name)=true/\((negS name=[61]∨negS name=[33,61]) ↔ (name=[61]∨name=[33,61])):=by
 have:name=[61]∨name=[33,61]∨name=[60]∨name=[60,61]∨name=[62]∨name=[62,61]:=by
  simpa [cmpL] using h
 rcases this with rfl | rfl | rfl | rfl | rfl | rfl <;> refine ⟨?_,by decide,by decide⟩ <;> simp only [negS,cmpHolds] <;> simp <;> (try (rw [Bool.eq_iff_iff];simp)) <;> (try omega)
theorem cmp_walk {name:Bs} (h:cmpL.contains name=true) (a:List Bnd) (t u:Trm):cmpWalk a (negS name) t u=cmpWalk a name t u:=by
 have:name=[61]∨name=[33,61]∨name=[60]∨name=[60,61]∨name=[62]∨name=[62,61]:=by
  simpa [cmpL] using h
 rcases this with rfl | rfl | rfl | rfl | rfl | rfl <;> simp [negS,cmpWalk]
theorem formed_cmp {name:Bs} {n:Int} {terms:List Trm} {binds:List Bnd} {l:List Frm} (h:formedF (.mk 9 name n terms binds l)=true):cmpL.contains name=true/\∃ t u,terms=[t,u]:=by
 rw [formedF_mk,Bool.and_eq_true] at h
 have h:=h.2
 by_cases hc:cmpL.contains name=false
 ·rw [if_pos ⟨rfl,hc⟩] at h;cases h
 rw [if_neg (fun h=>hc h.2),if_pos (by decide)] at h
 simp only [Bool.and_eq_true,decide_eq_true_eq] at h
 obtain ⟨t,u,e⟩:=len_two h.1
 exact ⟨by simpa using hc,t,u,e⟩
theorem formed_atom {kind:Int} {name:Bs} {n:Int} {terms:List Trm} {binds:List Bnd} {l:List Frm} (hk:atomK kind=true) (h:formedF (.mk kind name n terms binds l)=true):∃ t u,terms=[t,u]:=by
 rw [formedF_mk,Bool.and_eq_true] at h
 have h:=h.2
 by_cases hc:kind=9/\cmpL.contains name=false
 ·rw [if_pos hc] at h;cases h
 rw [if_neg hc,if_pos hk] at h
 simp only [Bool.and_eq_true,decide_eq_true_eq] at h
 exact len_two h.1
theorem formed_quant {kind:Int} {name:Bs} {n:Int} {terms:List Trm} {binds:List Bnd} {l:List Frm} (hk:quantK kind=true):formedF (.mk kind name n terms binds l)=(partsOk (.mk kind name n terms binds l)&&(decide (0<binds.length)&&decide (binds.length<=6)&&binds.all bndOk&&numberB n)):=by
 have h9:kind ≠ 9:=by unfold quantK at hk;simp at hk;omega
 have ha:¬ (atomK kind=true):=by unfold quantK at hk;unfold atomK;simp at hk ⊢;omega
 rw [formedF_mk,if_neg (fun h=>h9 h.1),if_neg ha,if_pos hk]
theorem tuples_length:∀ l:List Nat,(tuplesF l).length=l.prod
 | []=>rfl
 | k :: r=>by
  rw [tuplesF,List.prod_cons,<- tuples_length r]
  generalize tuplesF r=t
  suffices h:∀ m:List Nat,(m.flatMap (fun i=>t.map (i :: ·))).length=m.length*t.length by simpa using h (List.range k)
  intro m
  induction m with
  | nil=>simp
  | cons x m ih=>rw [List.flatMap_cons,List.length_append,ih,List.length_map,List.length_cons,Nat.add_mul];omega
theorem prod_le (B:Nat):∀ l:List Nat,(∀ x∈l,x<=B)->l.prod<=B ^ l.length
 | [],_=>by simp
 | x :: r,h=>by
  rw [List.prod_cons,List.length_cons,Nat.pow_succ,Nat.mul_comm]
  exact Nat.mul_le_mul (prod_le B r (fun y hy=>h y (by simp [hy]))) (h x (by simp))
theorem tuples_few {s:Schl} (hs:∀ sort,schCount s sort<=64) {binds:List Bnd} (hb:binds.length<=6):(tuplesF (sizesF s binds)).length<=68719476736:=by
 rw [tuples_length]
 have h1:=prod_le 64 (sizesF s binds) (fun x hx=>by obtain ⟨b,_,rfl⟩:=List.mem_map.1 hx;exact hs _)
 have h2:(sizesF s binds).length=binds.length:=by simp [sizesF]
 rw [h2] at h1
 have h3:64 ^ binds.length<=64 ^ 6:=Nat.pow_le_pow_right (by omega) hb
 have h4:(64:Nat) ^ 6=68719476736:=by decide
 omega
theorem quant_neg (kind n:Int) (hk:kind=14∨kind=15∨kind=16∨kind=17) (l:List (List Nat)) (p:List Nat->Bool) (same:Bool) :
  quantHolds (dualK kind) (if kind=16 then n - 1 else if kind=17 then n+1 else n) (l.countP (fun t=>if countK kind then p t else !(p t))) l.length = !(quantHolds kind n (l.countP p) l.length):=by
 rcases hk with rfl | rfl | rfl | rfl
 ·have e:dualK 14=15:=by decide
  have ec:countK 14=false:=by decide
  rw [e,ec]
  simp only [Bool.false_eq_true,if_false]
  rw [quant_any,quant_all];simp [List.not_all_eq_any_not]
 ·have e:dualK 15=14:=by decide
  have ec:countK 15=false:=by decide
  rw [e,ec]
  simp only [Bool.false_eq_true,if_false]
  rw [quant_any,quant_all];simp [List.not_any_eq_all_not]
 ·have e:dualK 16=17:=by decide
  have ec:countK 16=true:=by decide
  rw [e,ec]
  simp only [if_true]
  rw [show (fun t=>p t)=p from rfl]
  unfold quantHolds
  simp only [show ¬ ((17:Int)=14) by decide,show ¬ ((17:Int)=15) by decide,show ¬ ((17:Int)=16) by decide,show ¬ ((16:Int)=14) by decide,show ¬ ((16:Int)=15) by decide,if_false,if_true]
  rw [Bool.eq_iff_iff];simp;omega
 ·have e:dualK 17=16:=by decide
  have ec:countK 17=true:=by decide
  rw [e,ec]
  simp only [if_true]
  rw [show (fun t=>p t)=p from rfl]
  unfold quantHolds
  simp only [show ¬ ((17:Int)=14) by decide,show ¬ ((17:Int)=15) by decide,show ¬ ((17:Int)=16) by decide,show ¬ ((16:Int)=14) by decide,show ¬ ((16:Int)=15) by decide,if_false,if_true]
  rw [Bool.eq_iff_iff];simp;omega

structure NnfOk (s:Schl) (f g:Frm) (turn:Bool):Prop where
 formed:(nodesF g).all formedF=true
 walk:∀ a,walkF a f=0->walkF a g=0
 val:∀ w env,holdsF s w env g=(holdsF s w env f != turn)
theorem node_formed {kind:Int} {name:Bs} {n:Int} {terms:List Trm} {binds:List Bnd} {l:List Frm}:(nodesF (.mk kind name n terms binds l)).all formedF=true ↔ formedF (.mk kind name n terms binds l)=true/\(nodesL l).all formedF=true:=by
 rw [nodesF,List.all_cons,Bool.and_eq_true]
theorem leaf_ok (s:Schl) (f:Frm) (turn:Bool) (b:Bool) (hv:∀ w env,b=(holdsF s w env f != turn)):NnfOk s f (if b then yesFrm else noFrm) turn:=by
 cases b
 ·exact ⟨by decide,fun _ _=>rfl,fun w env=>by rw [<- hv w env];rfl⟩
 ·exact ⟨by decide,fun _ _=>rfl,fun w env=>by rw [<- hv w env];rfl⟩
theorem right_main (s:Schl) (hs:∀ sort,schCount s sort<=64):∀ (f:Frm),(nodesF f).all formedF=true->∀ turn,NnfOk s f (rightF f turn) turn
 | .mk kind name n terms binds l,h,turn=>by
  obtain ⟨hf,hl⟩:=node_formed.1 h
  obtain ⟨h1,h2,h3,h4,h5⟩:=parts_of hf
  rw [rightF]
  rcases arity_cases h1 with ⟨hlen,hk⟩ | ⟨hlen,rfl⟩ | ⟨hlen,hk⟩ | ⟨hlen,hk⟩
  ·obtain rfl:l=[]:=List.length_eq_zero_iff.1 hlen
   rcases hk with rfl | rfl | hk
   ·have e:rightNode 1 name n terms binds [] (rightL [] turn) (rightL [] (!turn)) turn=if !turn then yesFrm else noFrm:=by cases turn <;> simp [rightNode,alwaysF]
    rw [e];exact leaf_ok s _ _ _ (fun w env=>by rw [holdsF.eq_def];simp)
   ·have e:rightNode 2 name n terms binds [] (rightL [] turn) (rightL [] (!turn)) turn=if turn then yesFrm else noFrm:=by cases turn <;> simp [rightNode,alwaysF]
    rw [e];exact leaf_ok s _ _ _ (fun w env=>by rw [holdsF.eq_def];simp)
   ·have ha:atomK kind=true:=by unfold atomK;simp;omega
    have hb:binds=[]:=by rcases h3 with h | h;exact h;unfold quantK at h;simp at h;omega
    subst hb
    obtain ⟨t,u,rfl⟩:=formed_atom ha hf
    have hal:alwaysF kind n=false:=by unfold alwaysF;simp;omega
    have k2:¬ kind=2:=by omega
    have k10:¬ kind=10:=by omega
    have k13:¬ kind=13:=by omega
    have kc:countK kind=false:=by unfold countK;simp;omega
    by_cases h9:kind=9
    ·subst h9
     obtain ⟨hc,_⟩:=formed_cmp hf
     have e:rightNode 9 name n [t,u] [] [] (rightL [] turn) (rightL [] (!turn)) turn=.mk 9 (if turn then negS name else name) n [t,u] [] []:=by
      cases turn <;> simp [rightNode,hal,rightL,countK]
     rw [e]
     cases turn
     ·exact ⟨h,fun a ha=>ha,fun w env=>by simp⟩
     ·obtain ⟨_,c2,c3⟩:=cmp_neg hc 0 0
      refine ⟨?_,fun a hw=>?_,fun w env=>?_⟩
      ·refine node_formed.2 ⟨?_,hl⟩
       rw [formedF_mk,partsOk_mk] at hf ⊢
       rw [if_neg (fun h=>by rw [hc] at h;cases h.2)] at hf
       simp only [if_true]
       rw [if_neg (fun h=>by rw [c2] at h;cases h.2)]
       simpa using hf
      ·rw [walkF_two,if_pos rfl] at hw ⊢
       simp only [if_true]
       rw [cmp_walk hc];exact hw
      ·rw [holdsF_two,holdsF_two]
       simp only [if_true]
       have:=(cmp_neg hc (valueF s env t) (valueF s env u)).1
       simp [this]
    ·cases turn
     ·have e:rightNode kind name n [t,u] [] [] (rightL [] false) (rightL [] (!false)) false=.mk kind name n [t,u] [] []:=by
       simp [rightNode,hal,k2,k10,k13,rightL]
      rw [e]
      exact ⟨h,fun a ha=>ha,fun w env=>by simp⟩
     ·have e:rightNode kind name n [t,u] [] [] (rightL [] true) (rightL [] (!true)) true=notFrm (.mk kind name n [t,u] [] []):=by
       simp [rightNode,hal,k2,k10,k13,rightL,ha,h9,notFrm]
      rw [e]
      refine ⟨?_,fun a hw=>?_,fun w env=>?_⟩
      ·rw [notFrm,nodesF,nodesL,nodesL,List.append_nil,List.all_cons,h,Bool.and_true];rfl
      ·rw [notFrm,walkF_nil];simp only [bindAll,walkL,hw];simp
      ·rw [notFrm,holdsF_nil];simp [holdsAt]
  ·obtain ⟨x,rfl⟩:=List.length_eq_one_iff.1 hlen.symm.symm
   have ht:terms=[]:=by rcases h2 with h | h;exact h;exact absurd h (by decide)
   have hb:binds=[]:=by rcases h3 with h | h;exact h;exact absurd h (by decide)
   subst ht hb
   rw [nodesL,nodesL,List.append_nil] at hl
   have e:rightNode 10 name n [] [] [x] (rightL [x] turn) (rightL [x] (!turn)) turn=rightF x (!turn):=by simp [rightNode,alwaysF,rightL]
   rw [e]
   obtain ⟨g1,g2,g3⟩:=right_main s hs x hl (!turn)
   refine ⟨g1,fun a hw=>g2 a ?_,fun w env=>?_⟩
   ·rw [walkF_nil] at hw
    simp only [bindAll,walkL] at hw
    by_cases h0:walkF a x=0
    ·exact h0
    ·rw [if_pos h0] at hw;exact hw
   ·rw [g3,holdsF_nil];cases turn <;> simp [holdsAt]
  ·obtain ⟨x,y,rfl⟩:=len_two hlen.symm.symm
   have ht:terms=[]:=by rcases h2 with h | h;exact h;unfold atomK at h;simp at h;omega
   have hb:binds=[]:=by rcases h3 with h | h;exact h;unfold quantK at h;simp at h;omega
   have hn:n=0:=by rcases h4 with h | h;exact h;unfold countK at h;simp at h;omega
   have hnm:name=[]:=by rcases h5 with h | h;exact h;omega
   subst ht hb hn hnm
   have hl2:=hl
   rw [nodesL,nodesL,nodesL,List.append_nil,List.all_append,Bool.and_eq_true] at hl2
   have X:=fun t=>right_main s hs x hl2.1 t
   have Y:=fun t=>right_main s hs y hl2.2 t
   have wk:∀ a,walkF a (.mk kind [] 0 [] [] [x,y])=0->walkF a x=0/\walkF a y=0:=fun a hw=>by
    rw [walkF_nil] at hw
    simp only [bindAll,walkL] at hw
    by_cases h0:walkF a x=0
    ·rw [if_neg (by simp [h0])] at hw
     by_cases h1:walkF a y=0
     ·exact ⟨h0,h1⟩
     ·rw [if_pos h1] at hw;exact absurd hw h1
    ·rw [if_pos h0] at hw;exact absurd hw h0
   have two:∀ (k2:Int) (p q:Bool),(k2=11∨k2=12)->(∀ w env,holdsF s w env (twoFrm k2 (rightF x p) (rightF y q))=(holdsF s w env (.mk kind [] 0 [] [] [x,y]) != turn))->NnfOk s (.mk kind [] 0 [] [] [x,y]) (twoFrm k2 (rightF x p) (rightF y q)) turn:=fun k2 p q hk2 hv =>
    ⟨two_formed k2 (by omega) (X p).formed (Y q).formed,fun a hw=>two_walk k2 ((X p).walk a (wk a hw).1) ((Y q).walk a (wk a hw).2),hv⟩
   rcases hk with rfl | rfl | rfl
   ·have e:rightNode 11 [] 0 [] [] [x,y] (rightL [x,y] turn) (rightL [x,y] (!turn)) turn=twoFrm (if turn then 12 else 11) (rightF x turn) (rightF y turn):=by
     cases turn <;> simp [rightNode,alwaysF,rightL,twoFrm,atomK,countK,dualK]
    rw [e]
    refine two _ _ _ (by cases turn <;> simp) (fun w env=>?_)
    rw [twoFrm,holdsF_nil,holdsF_nil]
    cases turn <;> simp [holdsAt,(X _).val,(Y _).val]
   ·have e:rightNode 12 [] 0 [] [] [x,y] (rightL [x,y] turn) (rightL [x,y] (!turn)) turn=twoFrm (if turn then 11 else 12) (rightF x turn) (rightF y turn):=by
     cases turn <;> simp [rightNode,alwaysF,rightL,twoFrm,atomK,countK,dualK]
    rw [e]
    refine two _ _ _ (by cases turn <;> simp) (fun w env=>?_)
    rw [twoFrm,holdsF_nil,holdsF_nil]
    cases turn <;> simp [holdsAt,(X _).val,(Y _).val]
   ·have e:rightNode 13 [] 0 [] [] [x,y] (rightL [x,y] turn) (rightL [x,y] (!turn)) turn=twoFrm (if turn then 11 else 12) (rightF x (!turn)) (rightF y turn):=by
     cases turn <;> simp [rightNode,alwaysF,rightL,twoFrm]
    rw [e]
    refine two _ _ _ (by cases turn <;> simp) (fun w env=>?_)
    rw [twoFrm,holdsF_nil,holdsF_nil]
    cases turn <;> simp [holdsAt,(X _).val,(Y _).val]
  ·obtain ⟨x,rfl⟩:=List.length_eq_one_iff.1 hlen.symm.symm
   have hq:quantK kind=true:=by unfold quantK;simp;omega
   have ht:terms=[]:=by rcases h2 with h | h;exact h;unfold atomK at h;simp at h;omega
   have hnm:name=[]:=by rcases h5 with h | h;exact h;omega
   subst ht hnm
   rw [nodesL,nodesL,List.append_nil] at hl
   have X:=fun t=>right_main s hs x hl t
   rw [formed_quant hq] at hf
   simp only [Bool.and_eq_true,decide_eq_true_eq] at hf
   obtain ⟨hpo,⟨⟨hb1,hb2⟩,hb3⟩,hnum⟩:=hf
   have hfew:=tuples_few hs hb2
   have hnum':0<=n/\n<=1099511627776:=by unfold numberB at hnum;simpa using hnum
   by_cases hal:alwaysF kind n=true
   ·have e:rightNode kind [] n [] binds [x] (rightL [x] turn) (rightL [x] (!turn)) turn=if !turn then yesFrm else noFrm:=by
     have k2:¬ kind=2:=by omega
     cases turn <;> simp [rightNode,hal,k2]
    rw [e]
    refine leaf_ok s _ _ _ (fun w env=>?_)
    rw [holdsF_nil]
    have:∀ y:Nat,y<=(tuplesF (sizesF s binds)).length->quantHolds kind n y (tuplesF (sizesF s binds)).length=true:=fun y hy=>by
     unfold alwaysF at hal
     simp at hal
     have:(kind=16/\n=0)∨(kind=17/\n=1099511627776):=by omega
     rcases this with ⟨rfl,rfl⟩ | ⟨rfl,rfl⟩
     ·simp [quantHolds]
     ·simp [quantHolds];omega
    have hne:¬ kind=1/\¬ kind=2/\¬ kind=10/\¬ kind=11/\¬ kind=12/\¬ kind=13:=by omega
    rw [if_neg hne.1,if_neg hne.2.1,if_neg hne.2.2.1,if_neg hne.2.2.2.1,if_neg hne.2.2.2.2.1,if_neg hne.2.2.2.2.2,this _ (List.countP_le_length)]
    cases turn <;> rfl
   ·have hal':alwaysF kind n=false:=by simpa using hal
    have e:rightNode kind [] n [] binds [x] (rightL [x] turn) (rightL [x] (!turn)) turn=.mk (if turn then dualK kind else kind) [] (if turn then (if kind=16 then n - 1 else if kind=17 then n+1 else n) else n) [] binds [rightF x (turn&&!(countK kind))]:=by
     have hne:¬ kind=2/\¬ kind=10/\¬ kind=13/\¬ kind=9:=by omega
     have ha:atomK kind=false:=by unfold atomK;simp;omega
     cases turn <;> cases hc:countK kind <;> simp [rightNode,hal',hne.1,hne.2.1,hne.2.2.1,hne.2.2.2,ha,hc,rightL]
    rw [e]
    have hdk:dualK kind=14∨dualK kind=15∨dualK kind=16∨dualK kind=17:=by rcases hk with rfl | rfl | rfl | rfl <;> decide
    refine ⟨node_formed.2 ⟨?_,?_⟩,fun a hw=>?_,fun w env=>?_⟩
    ·cases turn
     ·simp only [Bool.false_eq_true,if_false]
      rw [formed_quant hq,partsOk_mk]
      rw [partsOk_mk] at hpo
      simp [hpo,hb1,hb2,hb3,hnum] at hpo ⊢
      simpa using hpo
     ·simp only [if_true]
      have hq2:quantK (dualK kind)=true:=by unfold quantK;simp;omega
      rw [formed_quant hq2,partsOk_mk]
      have a1:arityF (dualK kind)=some 1:=by rcases hk with rfl | rfl | rfl | rfl <;> decide
      unfold alwaysF at hal'
      simp at hal'
      rcases hk with rfl | rfl | rfl | rfl
      ·rcases h4 with rfl | h4
       ·simp [dualK,quantK,arityF,numberB,countK,hb1,hb2,hb3]
       ·exact absurd h4 (by decide)
      ·rcases h4 with rfl | h4
       ·simp [dualK,quantK,arityF,numberB,countK,hb1,hb2,hb3]
       ·exact absurd h4 (by decide)
      ·simp [dualK,quantK,arityF,numberB,countK,hb1,hb2];exact ⟨by simpa using hb3,by omega⟩
      ·simp [dualK,quantK,arityF,numberB,countK,hb1,hb2];exact ⟨by simpa using hb3,by omega⟩
    ·rw [nodesL,nodesL,List.append_nil];exact (X _).formed
    ·rw [walkF_nil] at hw ⊢
     cases hbd:bindAll a binds with
     | none=>rw [hbd] at hw;cases hw
     | some b =>
      rw [hbd] at hw
      simp only [walkL] at hw ⊢
      by_cases h0:walkF b x=0
      ·rw [(X _).walk b h0];simp
      ·rw [if_pos h0] at hw;exact absurd hw h0
    ·rw [holdsF_nil,holdsF_nil]
     have hne:¬ kind=1/\¬ kind=2/\¬ kind=10/\¬ kind=11/\¬ kind=12/\¬ kind=13:=by omega
     rw [if_neg hne.1,if_neg hne.2.1,if_neg hne.2.2.1,if_neg hne.2.2.2.1,if_neg hne.2.2.2.2.1,if_neg hne.2.2.2.2.2]
     cases turn
     ·simp only [Bool.false_eq_true,if_false,Bool.false_and]
      rw [if_neg hne.1,if_neg hne.2.1,if_neg hne.2.2.1,if_neg hne.2.2.2.1,if_neg hne.2.2.2.2.1,if_neg hne.2.2.2.2.2]
      simp [holdsAt,(X _).val]
     ·simp only [if_true,Bool.true_and]
      have hne2:¬ dualK kind=1/\¬ dualK kind=2/\¬ dualK kind=10/\¬ dualK kind=11/\¬ dualK kind=12/\¬ dualK kind=13:=by omega
      rw [if_neg hne2.1,if_neg hne2.2.1,if_neg hne2.2.2.1,if_neg hne2.2.2.2.1,if_neg hne2.2.2.2.2.1,if_neg hne2.2.2.2.2.2]
      have hq3:=quant_neg kind n hk (tuplesF (sizesF s binds)) (fun t=>holdsF s w (withF env binds t) x) true
      simp only [holdsAt]
      have e5:(fun t=>holdsF s w (withF env binds t) (rightF x (!(countK kind))))=fun t=>if countK kind then holdsF s w (withF env binds t) x else !(holdsF s w (withF env binds t) x):=by
       funext t
       rw [(X _).val]
       cases countK kind <;> simp
      rw [e5,hq3]
      cases quantHolds kind n ((tuplesF (sizesF s binds)).countP (fun t=>holdsF s w (withF env binds t) x)) (tuplesF (sizesF s binds)).length <;> rfl

theorem week_school {s:Schl} {w:List Plc} (h:weekCheck s w=0):schCheck s=0:=by
 unfold weekCheck at h
 split at h
 ·exact h
 ·rename_i h0;exact Decidable.byContradiction h0
theorem school_few {s:Schl} (h:schCheck s=0):s.slots.length<=50/\s.rooms.length<=32/\s.people.length<=64/\s.groups.length<=64/\s.lessons.length<=64:=by
 unfold schCheck at h
 split at h
 ·cases h
 split at h
 ·cases h
 split at h
 ·cases h
 split at h
 ·cases h
 split at h
 ·cases h
 ·omega
theorem school_count {s:Schl} (h:schCheck s=0) (sort:Int):schCount s sort<=64:=by
 have:=school_few h
 rw [schCount_eq]
 repeat' split
 all_goals omega
end Go.Chalk
/- The plain law of Judge over two lists of rules. No program is named here. -/
namespace Go.Chalk
theorem fold_times_le (B:Nat):∀ (l:List Nat) (n:Nat),n<=1048577->l.foldl timesF n<=1048577
 | [],n,h=>h
 | k :: r,n,h=>by rw [List.foldl_cons];exact fold_times_le B r _ (by unfold timesF;omega)
theorem manyF_le (s:Schl) (l:List Bnd):manyF s l<=1048577:=fold_times_le 0 _ _ (by omega)
theorem fold_times:∀ (l:List Nat) (n:Nat),l.foldl timesF n<=1048576->l.foldl timesF n=n*l.prod∨(l.prod=0/\l.foldl timesF n=0)
 | [],n,_=>by simp
 | k :: r,n,h=>by
  rw [List.foldl_cons] at h ⊢
  rw [List.prod_cons]
  rcases fold_times r _ h with e | ⟨e1,e2⟩
  ·by_cases hm:n*k<=1048577
   ·left;rw [e];unfold timesF;rw [Nat.min_eq_left hm,Nat.mul_assoc]
   ·have ht:timesF n k=1048577:=by unfold timesF;omega
    by_cases hp:r.prod=0
    ·right;rw [hp];exact ⟨by simp,by rw [e,hp];simp⟩
    ·exfalso
     rw [e,ht] at h
     have:1048577<=1048577*r.prod:=Nat.le_mul_of_pos_right _ (by omega)
     omega
  ·right;exact ⟨by rw [e1];simp,e2⟩
theorem manyF_tuples {s:Schl} {l:List Bnd} (h:manyF s l<=1048576):(tuplesF (sizesF s l)).length=manyF s l:=by
 rw [tuples_length]
 unfold manyF at h ⊢
 rcases fold_times _ _ h with e | ⟨e1,e2⟩
 ·rw [e];omega
 ·rw [e1,e2]
theorem tuples_mem:∀ (l:List Nat) (t:List Nat),t∈tuplesF l ↔ t.length=l.length/\∀ i (h:i<t.length) (h':i<l.length),t[i]<l[i]
 | [],t=>by
  simp only [tuplesF,List.mem_singleton,List.length_nil]
  constructor
  ·rintro rfl;simp
  ·rintro ⟨h,_⟩;exact List.length_eq_zero_iff.1 h
 | k :: r,t=>by
  simp only [tuplesF,List.mem_flatMap,List.mem_range,List.mem_map]
  constructor
  ·rintro ⟨i,hi,u,hu,rfl⟩
   obtain ⟨h1,h2⟩:=(tuples_mem r u).1 hu
   refine ⟨by simp [h1],fun j hj hj'=>?_⟩
   cases j with
   | zero=>simpa using hi
   | succ j=>simpa using h2 j (by simpa using hj) (by simpa using hj')
  ·rintro ⟨h1,h2⟩
   cases t with
   | nil=>simp at h1
   | cons x u =>
    refine ⟨x,h2 0 (by simp) (by simp),u,(tuples_mem r u).2 ⟨by simpa using h1,fun j hj hj'=>?_⟩,rfl⟩
    exact h2 (j+1) (by simpa using hj) (by simpa using hj')
end Go.Chalk
/- What can be evaluated: the parts of a formula. No program is named here. -/
namespace Go.Chalk
theorem walkL_all:∀ (l:List Frm) (a:List Bnd),walkL a l=0->∀ g∈l,walkF a g=0
 | f :: r,a,h,g,hg=>by
  rw [walkL] at h
  by_cases h1:walkF a f ≠ 0
  ·rw [if_pos h1] at h;exact absurd h h1
  ·rw [if_neg h1] at h
   rcases List.mem_cons.1 hg with rfl | hg
   ·exact Decidable.byContradiction h1
   ·exact walkL_all r a h g hg
theorem nodesL_all:∀ (l:List Frm),(nodesL l).all formedF=true->∀ g∈l,(nodesF g).all formedF=true
 | f :: r,h,g,hg=>by
  rw [nodesL,List.all_append,Bool.and_eq_true] at h
  rcases List.mem_cons.1 hg with rfl | hg
  ·exact h.1
  ·exact nodesL_all r h.2 g hg
theorem fsizes_mem:∀ (l:List Frm) (g:Frm),g∈l->g.size<=fsizes l/\g.depth<=fdepths l
 | f :: r,g,hg=>by
  rw [fsizes,fdepths]
  rcases List.mem_cons.1 hg with rfl | hg
  ·omega
  ·have:=fsizes_mem r g hg;omega
theorem broadL_base (s:Schl):∀ (l:List Frm) (n:Nat),n<=1048577->n<=broadL s l n
 | [],n,_=>by rw [broadL];exact Nat.le_refl _
 | f :: r,n,h=>by
  rw [broadL]
  have:=broadL_base s r (min (n+broadF s f) 1048577) (by omega)
  omega
theorem broadL_mem (s:Schl):∀ (l:List Frm) (n:Nat) (g:Frm),g∈l->broadF s g<=broadL s l n
 | f :: r,n,g,hg=>by
  rw [broadL]
  rcases List.mem_cons.1 hg with rfl | hg
  ·have h1:=broadL_base s r (min (n+broadF s g) 1048577) (by omega)
   have h2:=broadF_le s g
   omega
  ·exact broadL_mem s r _ g hg
theorem HoldsOk.inv {s:Schl} {w:List Plc} {env:List Ev} {kind:Int} {name:Bs} {n:Int} {binds:List Bnd} {fl:List Frm} (h:HoldsOk s w env (.mk kind name n [] binds fl)) :
  formedF (.mk kind name n [] binds fl)=true/\(nodesL fl).all formedF=true/\∃ bs,bindAll (evBinds env) binds=some bs/\walkL bs fl=0:=by
 have h1:=h.formed
 rw [nodesF,List.all_cons,Bool.and_eq_true] at h1
 refine ⟨h1.1,h1.2,?_⟩
 have h2:=h.walk
 rw [walkF_nil] at h2
 cases hb:bindAll (evBinds env) binds with
 | none=>rw [hb] at h2;cases h2
 | some bs=>rw [hb] at h2;exact ⟨bs,rfl,h2⟩
theorem HoldsOk.kid {s:Schl} {w:List Plc} {env:List Ev} {kind:Int} {name:Bs} {n:Int} {fl:List Frm} (h:HoldsOk s w env (.mk kind name n [] [] fl)) {g:Frm} (hg:g∈fl):HoldsOk s w env g:=by
 obtain ⟨h1,h2,bs,h3,h4⟩:=h.inv
 rw [bindAll] at h3
 cases h3
 have hs:=h.size
 have hd:=h.depth
 have hb:=h.broad
 rw [Frm.size] at hs
 rw [Frm.depth] at hd
 have hm:=fsizes_mem fl g hg
 rw [broadF] at hb
 have hk:=broadL_mem s fl 0 g hg
 have hl:=broadF_le s g
 have h1m:manyF s []=1:=rfl
 rw [h1m] at hb
 unfold timesF at hb
 exact ⟨h.week,h.may,nodesL_all fl h2 g hg,by omega,by omega,walkL_all fl _ h4 g hg,by omega⟩
theorem with_cons (env:List Ev) (b:Bnd) (r:List Bnd) (i:Nat) (u:List Nat):withF env (b :: r) (i :: u)=withF (env++[⟨b.name,b.sort,(i:Int)⟩]) r u:=by
 unfold withF;simp
theorem may_with {s:Schl}:∀ (binds:List Bnd) (env:List Ev) (t:List Nat) (bs:List Bnd),evMay s env=true->binds.all bndOk=true->bindAll (evBinds env) binds=some bs->t∈tuplesF (sizesF s binds)->evMay s (withF env binds t)=true/\evBinds (withF env binds t)=bs
 | [],env,t,bs,h,_,hb,_=>by
  rw [bindAll] at hb;cases hb
  have e:withF env [] t=env:=by unfold withF;simp
  rw [e];exact ⟨h,rfl⟩
 | b :: r,env,t,bs,h,hk,hb,ht=>by
  rw [List.all_cons,Bool.and_eq_true] at hk
  rw [bindAll] at hb
  split at hb
  ·cases hb
  ·rename_i hf
   rw [sizesF,List.map_cons,tuplesF,List.mem_flatMap] at ht
   obtain ⟨i,hi,hu⟩:=ht
   obtain ⟨u,hu',rfl⟩:=List.mem_map.1 hu
   rw [with_cons]
   have hm:evMay s (env++[⟨b.name,b.sort,(i:Int)⟩])=true:=evMay_snoc h hk.1 (by simpa using hf) (by simp) (by have:=List.mem_range.1 hi;simpa using this)
   exact may_with r _ u bs hm hk.2 (by rw [evBinds_snoc];exact hb) hu'
theorem HoldsOk.inst {s:Schl} {w:List Plc} {env:List Ev} {kind:Int} {name:Bs} {n:Int} {binds:List Bnd} {g:Frm} (h:HoldsOk s w env (.mk kind name n [] binds [g])) (hk:binds.all bndOk=true) :
  manyF s binds<=1048576/\∀ t∈tuplesF (sizesF s binds),HoldsOk s w (withF env binds t) g:=by
 obtain ⟨h1,h2,bs,h3,h4⟩:=h.inv
 have hs:=h.size
 have hd:=h.depth
 have hb:=h.broad
 rw [Frm.size] at hs
 rw [Frm.depth] at hd
 have hm:=fsizes_mem [g] g (by simp)
 rw [broadF,broadL,broadL] at hb
 have hl:=broadF_le s g
 have hp:1<=broadF s g:=by cases g;rw [broadF];omega
 have hml:=manyF_le s binds
 unfold timesF at hb
 have e0:min (0+broadF s g) 1048577=broadF s g:=by omega
 rw [e0] at hb
 have hmany:manyF s binds<=1048576:=by
  have:manyF s binds<=broadF s g*manyF s binds:=Nat.le_mul_of_pos_left _ (by omega)
  omega
 refine ⟨hmany,fun t ht=>?_⟩
 have hlen:=manyF_tuples hmany
 have hpos:0<(tuplesF (sizesF s binds)).length:=List.length_pos_of_mem ht
 have hbr:broadF s g<=1048576:=by
  have:broadF s g<=broadF s g*manyF s binds:=Nat.le_mul_of_pos_right _ (by omega)
  omega
 obtain ⟨m1,m2⟩:=may_with binds env t bs h.may hk h3 ht
 exact ⟨h.week,m1,nodesL_all _ h2 g (by simp),by omega,by omega,by rw [m2];exact walkL_all _ _ h4 g (by simp),hbr⟩
theorem findB_env (env:List Ev) (name:Bs):findB (evBinds env) name=env.findIdx? (fun x=>x.name==name):=by
 unfold findB evBinds;rw [List.findIdx?_map];rfl
theorem evOf_get {env:List Ev} {name:Bs} {i:Nat} (h:env.findIdx? (fun x=>x.name==name)=some i):∃ hi:i<env.length,evOf env name=env[i]:=by
 rw [List.findIdx?_eq_some_iff_getElem] at h
 obtain ⟨hi,h1,h2⟩:=h
 refine ⟨hi,?_⟩
 unfold evOf
 have:env.find? (fun x=>x.name==name)=some env[i]:=by
  rw [List.find?_eq_some_iff_getElem]
  exact ⟨h1,i,hi,rfl,fun j hj=>by simpa using h2 j hj⟩
 rw [this];rfl
theorem term_found {s:Schl} {env:List Ev} {t:Trm} (hm:evMay s env=true) (hk:t.kind ≠ 1) (hs:(sortF (evBinds env) t).2=0) :
  (env.findIdx? (fun x=>x.name==t.name)).isSome=true/\0<=(evOf env t.name).at_/\(evOf env t.name).at_<(schCount s (evOf env t.name).sort:Int)/\(t.kind=2->(sortF (evBinds env) t).1=(evOf env t.name).sort)/\(t.kind ≠ 2->(takesF t.kind).1=(evOf env t.name).sort):=by
 unfold sortF at hs ⊢
 rw [if_neg hk] at hs ⊢
 rw [findB_env] at hs ⊢
 cases hf:env.findIdx? (fun x=>x.name==t.name) with
 | none=>rw [hf] at hs;cases hs
 | some i =>
  rw [hf] at hs
  obtain ⟨hi,he⟩:=evOf_get hf
  have hb:(evBinds env)[i]?=some ⟨env[i].name,env[i].sort⟩:=by simp [evBinds,hi]
  simp only [hb] at hs ⊢
  rw [he]
  unfold evMay at hm
  rw [Bool.and_eq_true,Bool.not_eq_true',List.any_eq_false] at hm
  have ho:=hm.2 _ (List.getElem_mem hi)
  unfold evOdd at ho
  simp only [Bool.or_eq_true,decide_eq_true_eq,not_or] at ho
  refine ⟨rfl,by omega,by omega,fun h2=>by rw [if_pos h2],fun h2=>?_⟩
  rw [if_neg h2] at hs
  split at hs
  ·cases hs
  ·rename_i h3;exact Decidable.byContradiction h3
end Go.Chalk
/- What ground's functions compute, and the plain law: a ground formula's value under a week's assignment is the formula's value in the week. No program is named here. -/
namespace Go.Chalk
def bitG (a:List Bool) (v:Int):Bool:=decide (0<=v)&&a.getD v.toNat false
mutual
/-- ref10.Value -/
def valG:Tr->List Bool->Bool
 | .mk kind v k l,a =>
  if kind=1 then v==1
  else if kind=2 then bitG a v
  else if kind=3 then notG l a
  else if kind=4 then decide (cntG l a=l.length)
  else if kind=5 then decide (0<cntG l a)
  else decide (k<=(cntG l a:Int))
/-- Whether there is a first tree, and it is false. -/
def notG:List Tr->List Bool->Bool
 | [],_=>false
 | t :: _,a=>!(valG t a)
/-- How many of the trees are true. -/
def cntG:List Tr->List Bool->Nat
 | [],_=>0
 | t :: r,a=>(if valG t a then 1 else 0)+cntG r a
end
theorem cntG_eq (a:List Bool):∀ l:List Tr,cntG l a=l.countP (valG · a)
 | []=>rfl
 | t :: r=>by rw [cntG,cntG_eq a r,List.countP_cons];omega
def wkAt (s:Schl) (i j:Int):Int:=if (0<=i/\i<s.lessons.length)/\0<=j/\j<s.slots.length then i*s.slots.length+j+1 else 0
def wkIn (s:Schl) (i j:Int):Int:=if (0<=i/\i<s.lessons.length)/\0<=j/\j<s.rooms.length then s.lessons.length*s.slots.length+i*s.rooms.length+j+1 else 0
def wkVars (s:Schl):Nat:=s.lessons.length*(s.slots.length+s.rooms.length)
def firstW (s:Schl):List Plc:=List.replicate s.lessons.length ⟨0,0⟩
mutual
/-- maker.tree -/
def gtF (s:Schl):List Ev->Frm->Tr
 | env,.mk kind name n terms binds l =>
  if kind=10 then .mk 3 0 0 (gtL s env l)
  else if kind=11 then .mk 4 0 0 (gtL s env l)
  else if kind=12 then .mk 5 0 0 (gtL s env l)
  else if kind=13 then .mk 5 0 0 [.mk 3 0 0 [gtAt s env l 0],gtAt s env l 1]
  else if kind=14 then .mk 4 0 0 ((tuplesF (sizesF s binds)).map (fun t=>gtAt s (withF env binds t) l 0))
  else if kind=15 then .mk 5 0 0 ((tuplesF (sizesF s binds)).map (fun t=>gtAt s (withF env binds t) l 0))
  else if kind=16 then .mk 6 0 n ((tuplesF (sizesF s binds)).map (fun t=>gtAt s (withF env binds t) l 0))
  else if kind=17 then .mk 3 0 0 [.mk 6 0 (min (n+1) 1099511627776) ((tuplesF (sizesF s binds)).map (fun t=>gtAt s (withF env binds t) l 0))]
  else if kind=3 then .mk 2 (wkAt s (evOf env (terms.headD ⟨0,[],0⟩).name).at_ (evOf env ((terms.drop 1).headD ⟨0,[],0⟩).name).at_) 0 []
  else if kind=4 then .mk 2 (wkIn s (evOf env (terms.headD ⟨0,[],0⟩).name).at_ (evOf env ((terms.drop 1).headD ⟨0,[],0⟩).name).at_) 0 []
  else .mk 1 (if (evHolds s (firstW s) env (.mk kind name n terms binds l)).1 then 1 else 0) 0 []
def gtL (s:Schl):List Ev->List Frm->List Tr
 | _,[]=>[]
 | env,f :: r=>gtF s env f :: gtL s env r
def gtAt (s:Schl):List Ev->List Frm->Nat->Tr
 | _,[],_=>.mk 0 0 0 []
 | env,f :: _,0=>gtF s env f
 | env,_ :: r,i+1=>gtAt s env r i
end
structure TrueW (s:Schl) (w:List Plc) (a:List Bool):Prop where
 len:a.length=wkVars s+1
 zero:a.getD 0 false=false
 at_:∀ i j:Nat,i<s.lessons.length->j<s.slots.length->a.getD (i*s.slots.length+j+1) false=decide ((plcAt w i).slot=j)
 in_:∀ i j:Nat,i<s.lessons.length->j<s.rooms.length->a.getD (s.lessons.length*s.slots.length+i*s.rooms.length+j+1) false=decide ((plcAt w i).room=j)
theorem TrueW.wkAt {s:Schl} {w:List Plc} {a:List Bool} (h:TrueW s w a) {i j:Int} (hi:0<=i/\i<s.lessons.length) (hj:0<=j/\j<s.slots.length):bitG a (wkAt s i j)=((plcAt w i).slot==j):=by
 obtain ⟨i',rfl⟩:=Int.eq_ofNat_of_zero_le hi.1
 obtain ⟨j',rfl⟩:=Int.eq_ofNat_of_zero_le hj.1
 unfold Chalk.wkAt bitG
 rw [if_pos ⟨hi,hj⟩]
 have e:((i':Int)*s.slots.length+j'+1)=((i'*s.slots.length+j'+1:Nat):Int):=by push_cast;rfl
 rw [e,Int.toNat_natCast,h.at_ i' j' (by omega) (by omega),decide_eq_true (Int.natCast_nonneg _),Bool.true_and]
 rw [Bool.eq_iff_iff];simp
theorem TrueW.wkIn {s:Schl} {w:List Plc} {a:List Bool} (h:TrueW s w a) {i j:Int} (hi:0<=i/\i<s.lessons.length) (hj:0<=j/\j<s.rooms.length):bitG a (wkIn s i j)=((plcAt w i).room==j):=by
 obtain ⟨i',rfl⟩:=Int.eq_ofNat_of_zero_le hi.1
 obtain ⟨j',rfl⟩:=Int.eq_ofNat_of_zero_le hj.1
 unfold Chalk.wkIn bitG
 rw [if_pos ⟨hi,hj⟩]
 have e:((s.lessons.length:Int)*s.slots.length+(i':Int)*s.rooms.length+j'+1)=((s.lessons.length*s.slots.length+i'*s.rooms.length+j'+1:Nat):Int):=by push_cast;rfl
 rw [e,Int.toNat_natCast,h.in_ i' j' (by omega) (by omega),decide_eq_true (Int.natCast_nonneg _),Bool.true_and]
 rw [Bool.eq_iff_iff];simp
theorem asked_in {s:Schl} {env:List Ev} {t:Trm} {q:Int} (hm:evMay s env=true) (h0:(sortF (evBinds env) t).2=0) (h1:(sortF (evBinds env) t).1=q) (hq:q=1∨q=2∨q=3):t.kind=2/\0<=(evOf env t.name).at_/\(evOf env t.name).at_<(schCount s q:Int):=by
 have hk:t.kind ≠ 1:=fun h=>by
  unfold sortF at h1;rw [if_pos h] at h1
  simp only at h1;omega
 obtain ⟨g1,g2,g3,g4,g5⟩:=term_found hm hk h0
 by_cases h2:t.kind=2
 ·refine ⟨h2,g2,?_⟩
  rw [<- h1,g4 h2];exact g3
 ·exfalso
  unfold sortF at h0 h1
  rw [if_neg hk] at h0 h1
  split at h1
  ·simp only at h1;omega
  ·rename_i i hi
   rw [hi] at h0
   simp only at h0
   split at h1
   ·simp only at h1;omega
   ·rename_i b hb
    rw [hb] at h0
    simp only [h2,if_false] at h0 h1
    split at h1
    ·simp only at h1;omega
    ·simp only at h1
     unfold takesF at h1
     repeat' split at h1
     all_goals simp only at h1;omega
theorem gtL_eq (s:Schl) (env:List Ev):∀ l:List Frm,gtL s env l=l.map (gtF s env)
 | []=>by rw [gtL];rfl
 | f :: r=>by rw [gtL,gtL_eq s env r];rfl
theorem gt_cnt (s:Schl) (w:List Plc) (a:List Bool) (ts:List (List Nat)) (k:List Nat->Tr) (p:List Nat->Bool) (h:∀ t∈ts,valG (k t) a=p t):cntG (ts.map k) a=ts.countP p:=by
 rw [cntG_eq,List.countP_map]
 exact List.countP_congr (fun t ht=>by simp [h t ht])
theorem valG_k {kind v k:Int} {l:List Tr} {a:List Bool}:valG (.mk kind v k l) a=if kind=1 then v==1 else if kind=2 then bitG a v else if kind=3 then notG l a else if kind=4 then decide (cntG l a=l.length) else if kind=5 then decide (0<cntG l a) else decide (k<=(cntG l a:Int)):=by rw [valG]
theorem HoldsOk.week_swap {s:Schl} {w v:List Plc} {env:List Ev} {f:Frm} (h:HoldsOk s w env f) (hv:weekCheck s v=0):HoldsOk s v env f:=⟨hv,h.may,h.formed,h.size,h.depth,h.walk,h.broad⟩
theorem atom_notw (s:Schl) (w v:List Plc) (env:List Ev) (kind:Int) (name:Bs) (n:Int) (terms:List Trm) (binds:List Bnd) (l:List Frm) (h3:kind ≠ 3) (h4:kind ≠ 4) (hk:kind<=9) (hf:formedF (.mk kind name n terms binds l)=true):holdsF s w env (.mk kind name n terms binds l)=holdsF s v env (.mk kind name n terms binds l):=by
 refine holdsF_static s w v _ env ?_
 obtain ⟨p1,p2,p3,p4,p5⟩:=parts_of hf
 rcases arity_cases p1 with ⟨hl,_⟩ | ⟨_,hk2⟩ | ⟨_,hk2⟩ | ⟨_,hk2⟩
 ·obtain rfl:=List.length_eq_zero_iff.1 hl
  rw [staticF];simp [staticL,h3,h4]
 ·omega
 ·omega
 ·omega
theorem gt_val (s:Schl) (w:List Plc) (a:List Bool) (ha:TrueW s w a) (h1:weekCheck s (firstW s)=0):∀ (m:Nat) (f:Frm) (env:List Ev),f.size<=m->HoldsOk s w env f->valG (gtF s env f) a=holdsF s w env f:=by
 intro m
 induction m with
 | zero=>intro f _ h;have:=f.size_pos;omega
 | succ m ih =>
  rintro ⟨kind,name,n,terms,binds,l⟩ env hm h
  rw [Frm.size] at hm
  have hfo:formedF (.mk kind name n terms binds l)=true:=(node_formed.1 h.formed).1
  obtain ⟨p1,p2,p3,p4,p5⟩:=parts_of hfo
  have hat:∀ t u:Trm,terms=[t,u]->kind ≠ 9->atomWalk (evBinds env) kind t u=0:=fun t u e h9=>by
   have:=h.walk
   rw [e,walkF_two,if_neg h9] at this
   exact this
  have hsz:∀ x∈l,x.size<=m:=fun x hx=>by have:=(fsizes_mem l x hx).1;omega
  rcases arity_cases p1 with ⟨hl,hk⟩ | ⟨hl,rfl⟩ | ⟨hl,hk⟩ | ⟨hl,hk⟩
  ·obtain rfl:=List.length_eq_zero_iff.1 hl
   have hk9:kind<=9:=by omega
   by_cases h3:kind=3
   ·subst h3
    obtain ⟨t,u,rfl⟩:=formed_atom (by decide) hfo
    have hw:=hat t u rfl (by decide)
    unfold atomWalk at hw
    have e1:(sortF (evBinds env) t).2=0:=by
     split at hw
     ·exact hw
     ·rename_i h0;exact Decidable.byContradiction h0
    rw [if_neg (by simp [e1])] at hw
    have e2:(sortF (evBinds env) t).1=1:=by
     split at hw
     ·cases hw
     ·rename_i h0;exact Decidable.byContradiction h0
    rw [if_neg (by rw [e2];decide)] at hw
    have e3:(sortF (evBinds env) u).2=0:=by
     split at hw
     ·exact hw
     ·rename_i h0;exact Decidable.byContradiction h0
    rw [if_neg (by simp [e3])] at hw
    have e4:(sortF (evBinds env) u).1=2:=by
     split at hw
     ·cases hw
     ·rename_i h0;exact Decidable.byContradiction h0
    obtain ⟨_,g1,g2⟩:=asked_in h.may e1 e2 (.inl rfl)
    obtain ⟨_,g3,g4⟩:=asked_in h.may e3 e4 (.inr (.inl rfl))
    rw [gtF,holdsF_two]
    simp only [Int.reduceEq,↓reduceIte,ne_eq,not_false_eq_true,List.headD_cons,List.drop_succ_cons,List.drop_zero]
    rw [valG_k,if_neg (by decide),if_pos rfl,ha.wkAt ⟨g1,by simpa [schCount_eq] using g2⟩ ⟨g3,by simpa [schCount_eq] using g4⟩]
    unfold atomHolds;simp only [Int.reduceEq,↓reduceIte]
   by_cases h4:kind=4
   ·subst h4
    obtain ⟨t,u,rfl⟩:=formed_atom (by decide) hfo
    have hw:=hat t u rfl (by decide)
    unfold atomWalk at hw
    have e1:(sortF (evBinds env) t).2=0:=by
     split at hw
     ·exact hw
     ·rename_i h0;exact Decidable.byContradiction h0
    rw [if_neg (by simp [e1])] at hw
    have e2:(sortF (evBinds env) t).1=1:=by
     split at hw
     ·cases hw
     ·rename_i h0;exact Decidable.byContradiction h0
    rw [if_neg (by rw [e2];decide)] at hw
    have e3:(sortF (evBinds env) u).2=0:=by
     split at hw
     ·exact hw
     ·rename_i h0;exact Decidable.byContradiction h0
    rw [if_neg (by simp [e3])] at hw
    have e4:(sortF (evBinds env) u).1=3:=by
     split at hw
     ·cases hw
     ·rename_i h0;exact Decidable.byContradiction h0
    obtain ⟨_,g1,g2⟩:=asked_in h.may e1 e2 (.inl rfl)
    obtain ⟨_,g3,g4⟩:=asked_in h.may e3 e4 (.inr (.inr rfl))
    rw [gtF,holdsF_two]
    simp only [Int.reduceEq,↓reduceIte,ne_eq,not_false_eq_true,List.headD_cons,List.drop_succ_cons,List.drop_zero]
    rw [valG_k,if_neg (by decide),if_pos rfl,ha.wkIn ⟨g1,by simpa [schCount_eq] using g2⟩ ⟨g3,by simpa [schCount_eq] using g4⟩]
    unfold atomHolds;simp only [Int.reduceEq,↓reduceIte]
   ·rw [gtF,evHolds_val (h.week_swap h1),atom_notw s (firstW s) w env kind name n terms binds [] h3 h4 hk9 hfo]
    rw [if_neg (by omega),if_neg (by omega),if_neg (by omega),if_neg (by omega),if_neg (by omega),if_neg (by omega),if_neg (by omega),if_neg (by omega),if_neg h3,if_neg h4,valG_k,if_pos rfl]
    cases holdsF s w env (.mk kind name n terms binds []) <;> rfl
  ·have ht:terms=[]:=by rcases p2 with h | h;exact h;unfold atomK at h;simp at h
   have hb:binds=[]:=by rcases p3 with h | h;exact h;unfold quantK at h;simp at h
   subst ht;subst hb
   obtain ⟨x,rfl⟩:=List.length_eq_one_iff.1 hl.symm.symm
   have hx:=ih x env (hsz x (by simp)) (h.kid (by simp))
   rw [gtF,if_pos rfl,valG_k,holdsF_nil]
   simp [gtL,notG,hx,holdsAt]
  ·have ht:terms=[]:=by rcases p2 with h | h;exact h;unfold atomK at h;simp at h;omega
   have hb:binds=[]:=by rcases p3 with h | h;exact h;unfold quantK at h;simp at h;omega
   subst ht;subst hb
   obtain ⟨x,y,rfl⟩:=len_two hl.symm.symm
   have hx:=ih x env (hsz x (by simp)) (h.kid (by simp))
   have hy:=ih y env (hsz y (by simp)) (h.kid (by simp))
   rw [gtF,holdsF_nil]
   rcases hk with rfl | rfl | rfl
   ·simp only [Int.reduceEq,↓reduceIte,valG_k,gtL,cntG,hx,hy,holdsAt,List.length_cons,List.length_nil]
    cases holdsF s w env x <;> cases holdsF s w env y <;> decide
   ·simp only [Int.reduceEq,↓reduceIte,valG_k,gtL,cntG,hx,hy,holdsAt,List.length_cons,List.length_nil]
    cases holdsF s w env x <;> cases holdsF s w env y <;> decide
   ·simp only [Int.reduceEq,↓reduceIte,valG_k,gtAt,cntG,notG,hx,hy,holdsAt,List.length_cons,List.length_nil]
    cases holdsF s w env x <;> cases holdsF s w env y <;> decide
  ·have ht:terms=[]:=by rcases p2 with h | h;exact h;unfold atomK at h;simp at h;omega
   subst ht
   obtain ⟨x,rfl⟩:=List.length_eq_one_iff.1 hl.symm.symm
   have hq:quantK kind=true:=by unfold quantK;simp;omega
   have hfq:=hfo
   rw [formed_quant hq] at hfq
   simp only [Bool.and_eq_true] at hfq
   have hbk:binds.all bndOk=true:=hfq.2.1.2
   have hnb:numberB n=true:=hfq.2.2
   have hin:=(h.inst hbk).2
   have hmn:=(h.inst hbk).1
   have hc:∀ t∈tuplesF (sizesF s binds),valG (gtAt s (withF env binds t) [x] 0) a=holdsAt s w (withF env binds t) [x] 0:=fun t ht=>by
    rw [gtAt,holdsAt];exact ih x _ (hsz x (by simp)) (hin t ht)
   have hcnt:=gt_cnt s w a (tuplesF (sizesF s binds)) (fun t=>gtAt s (withF env binds t) [x] 0) (fun t=>holdsAt s w (withF env binds t) [x] 0) hc
   have hle:=List.countP_le_length (p:=fun t=>holdsAt s w (withF env binds t) [x] 0) (l:=tuplesF (sizesF s binds))
   have hlen:=manyF_tuples hmn
   rw [gtF,holdsF_nil]
   rcases hk with rfl | rfl | rfl | rfl
   ·simp only [Int.reduceEq,↓reduceIte,valG_k,hcnt,List.length_map,quantHolds]
    rw [Bool.eq_iff_iff];simp
   ·simp only [Int.reduceEq,↓reduceIte,valG_k,hcnt,quantHolds]
   ·simp only [Int.reduceEq,↓reduceIte,valG_k,hcnt,quantHolds]
   ·simp only [Int.reduceEq,↓reduceIte,valG_k,notG,hcnt,quantHolds]
    have hn:n<=1099511627776:=by unfold numberB at hnb;simp at hnb;omega
    have h0:0<=n:=by unfold numberB at hnb;simp at hnb;omega
    have hbig:(tuplesF (sizesF s binds)).length<=1048576:=by omega
    rw [Bool.eq_iff_iff]
    simp only [Bool.not_eq_true',decide_eq_false_iff_not,decide_eq_true_eq]
    omega
end Go.Chalk
