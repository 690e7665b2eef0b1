/- Parts of the proof. -/
import Derived.WalkSpells
import Derived.WalkLawsBesides
import Derived.Lib.Hide
import Derived.ProofKit
import Derived.Test.YtncnnbmeacpboaaGreatDoorO02
set_option linter.unusedVariables false
set_option linter.unusedSimpArgs false
namespace Go.aa
open Go.RowKit
variable {p:Prop} {i B b sz A r1 r2 o C:Nat} {F G S:Nat->Prop} {w w' w1:World} {t e tl ti:TypeId} {fz:Nat×Nat} {a:Addr} {v v1 v2 c0 c1 c2 c3:Value} {cs:List Value} {α:Type} {P:Program} {r:Option Nat} {c:List Int} {least:Int}
theorem Lh(h:p):Hid p:=Lib.hid h
theorem aI{q:Prop}(h:p)(k:q):p∧q:=⟨h,k⟩
theorem gS{α:Type _}{xs:Array α}{a:α}(h:xs[i]?=some a):∃h:i<xs.size,xs[i]=a:=Array.getElem?_eq_some_iff.1 h
inductive D where
 |int (k:IntKind) (n:Int)
 |bool (b:Bool)
 |str (s:ByteArray)
 |sl (xs:List D)
 |st (xs:List D)
def Agree(F:Nat->Prop)(w w':World):Prop:=∀k,F k->w'.heap[k]?=w.heap[k]?
theorem Agree.refl(F:Nat->Prop)(w:World):Agree F w w:=fun _ _=>rfl
theorem Agree.trans{F:Nat->Prop}{a b c:World}(h:Agree F a b)(k:Agree F b c):Agree F a c:=fun i hi=>(k i hi).trans (h i hi)
theorem Agree.mono(h:Agree G w w')(lh:∀k,F k->G k):Agree F w w':=fun k hk=>h k (lh k hk)
theorem af(h:Below B w w'):Agree (·<B) w w':=fun k hk=>h.block k hk
theorem bA(h:Agree F w w'){a:Addr}(ha:F a.block):w'.cell? a=w.cell? a:=World.cell?_of_block (w:=w) (h a.block ha)
def fF(F:Nat->Prop)(a:Option Addr)(b o n:Nat):Prop:=0<n->a=some ⟨b,o,none⟩/\F b
theorem fF.mono(lh:∀k,F k->G k){a:Option Addr}{b o n:Nat}(h:fF F a b o n):fF G a b o n:=fun hn=>⟨(h hn).1,lh _ (h hn).2⟩
def av(w:World)(b o:Nat)(cs:List Value):Prop:=∀j (h:j<cs.length),w.cell? ⟨b,o+j,none⟩=some cs[j]
theorem av.agree(h:Agree F w w'){b o:Nat}{cs:List Value}(hb:F b)(hc:av w b o cs):av w' b o cs:=
 fun j hj=>(bA h (a:=⟨b,o+j,none⟩) hb).trans (hc j hj)
mutual
def D.width:D->Nat
 | .st xs=>bz xs
 |_=>1
def bz:List D->Nat
 |[]=>0
 |x::r=>x.width+bz r
end
mutual
def aM(w:World)(F:Nat->Prop):D->List Value->Prop
 | .int k n,cs=>cs=[.int k n]/\(Lit.int k n).wf=true
 | .bool b,cs=>cs=[.bool b]
 | .str s,cs=>cs=[.string s]/\s.size<=maxLen
 | .sl xs,cs=>∃a b o cap,cs=[.slice a xs.length cap]/\fF F a b o xs.length/\xs.length<=cap/\cap<=maxLen/\bq w F xs b o
 | .st xs,cs=>au w F xs cs
def au(w:World)(F:Nat->Prop):List D->List Value->Prop
 |[],cs=>cs=[]
 |x::r,cs=>∃c1 c2,cs=c1++c2/\aM w F x c1/\au w F r c2
def bq(w:World)(F:Nat->Prop):List D->Nat->Nat->Prop
 |[],_,_=>True
 |x::r,b,o=>(∃cs,aM w F x cs/\av w b o cs)/\bq w F r b (o+x.width)
end
mutual
theorem aM.length{w:World}{F:Nat->Prop}:∀(x:D) (cs:List Value),aM w F x cs->cs.length=x.width
 | .int _ _,_,h=>by rw[aM] at h;simp[h.1,D.width]
 | .bool _,_,h=>by rw[aM] at h;simp[h,D.width]
 | .str _,_,h=>by rw[aM] at h;simp[h.1,D.width]
 | .sl _,_,h=>by rw[aM] at h;obtain⟨_,_,_,_,rfl,_⟩:=h;simp[D.width]
 | .st xs,cs,h=>by rw[aM] at h;rw[D.width];exact au.length xs cs h
theorem au.length{w:World}{F:Nat->Prop}:∀(xs:List D) (cs:List Value),au w F xs cs->cs.length=bz xs
 |[],_,h=>by rw[au] at h;simp[h,bz]
 |x::r,cs,h=>by
  rw[au] at h;obtain⟨c1,c2,rfl,h1,h2⟩:=h;rw[List.length_append,aM.length x c1 h1,au.length r c2 h2,bz]
end
mutual
theorem aM.agree{F:Nat->Prop}{w w':World}(h:Agree F w w'):∀(x:D) (cs:List Value),aM w F x cs->aM w' F x cs
 | .int _ _,_,hx=>by rw[aM] at hx ⊢;exact hx
 | .bool _,_,hx=>by rw[aM] at hx ⊢;exact hx
 | .str _,_,hx=>by rw[aM] at hx ⊢;exact hx
 | .sl xs,_,hx=>by
  rw[aM] at hx ⊢;obtain⟨a,b,o,cap,e,hs,h1,h2,hr⟩:=hx;exact⟨a,b,o,cap,e,hs,h1,h2,bq.agree h xs b o (fun hne=>(hs (by cases xs<;>simp_all)).2) hr⟩
 | .st xs,cs,hx=>by rw[aM] at hx ⊢;exact au.agree h xs cs hx
theorem au.agree{F:Nat->Prop}{w w':World}(h:Agree F w w'):∀(xs:List D) (cs:List Value),au w F xs cs->au w' F xs cs
 |[],_,hx=>by rw[au] at hx ⊢;exact hx
 |x::r,cs,hx=>by
  rw[au] at hx ⊢;obtain⟨c1,c2,e,h1,h2⟩:=hx;exact⟨c1,c2,e,aM.agree h x c1 h1,au.agree h r c2 h2⟩
theorem bq.agree{F:Nat->Prop}{w w':World}(h:Agree F w w'):∀(xs:List D) (b o:Nat),(xs≠[]->F b)->bq w F xs b o->bq w' F xs b o
 |[],_,_,_,_=>by rw[bq];trivial
 |x::r,b,o,hb,hx=>by
  rw[bq] at hx ⊢;obtain⟨⟨cs,h1,h2⟩,hr⟩:=hx;exact⟨⟨cs,aM.agree h x cs h1,h2.agree h (hb (by simp))⟩,bq.agree h r b _ (fun _=>hb (by simp)) hr⟩
end
mutual
theorem aM.mono{F G:Nat->Prop}(h:∀k,F k->G k){w:World}:∀(x:D) (cs:List Value),aM w F x cs->aM w G x cs
 | .int _ _,_,hx=>by rw[aM] at hx ⊢;exact hx
 | .bool _,_,hx=>by rw[aM] at hx ⊢;exact hx
 | .str _,_,hx=>by rw[aM] at hx ⊢;exact hx
 | .sl xs,_,hx=>by
  rw[aM] at hx ⊢;obtain⟨a,b,o,cap,e,hs,h1,h2,hr⟩:=hx;exact⟨a,b,o,cap,e,hs.mono h,h1,h2,bq.mono h xs b o hr⟩
 | .st xs,cs,hx=>by rw[aM] at hx ⊢;exact au.mono h xs cs hx
theorem au.mono{F G:Nat->Prop}(h:∀k,F k->G k){w:World}:∀(xs:List D) (cs:List Value),au w F xs cs->au w G xs cs
 |[],_,hx=>by rw[au] at hx ⊢;exact hx
 |x::r,cs,hx=>by
  rw[au] at hx ⊢;obtain⟨c1,c2,e,h1,h2⟩:=hx;exact⟨c1,c2,e,aM.mono h x c1 h1,au.mono h r c2 h2⟩
theorem bq.mono{F G:Nat->Prop}(h:∀k,F k->G k){w:World}:∀(xs:List D) (b o:Nat),bq w F xs b o->bq w G xs b o
 |[],_,_,_=>by rw[bq];trivial
 |x::r,b,o,hx=>by
  rw[bq] at hx ⊢;obtain⟨⟨cs,h1,h2⟩,hr⟩:=hx;exact⟨⟨cs,aM.mono h x cs h1,h2⟩,bq.mono h r b _ hr⟩
end
theorem bq.get{w:World}{F:Nat->Prop}{sz:Nat}:∀ {xs:List D} {b o:Nat},bq w F xs b o->(∀x∈xs,x.width=sz)->∀(i:Nat) (h:i<xs.length),∃cs,aM w F xs[i] cs/\av w b (o+i*sz) cs
 |x::r,b,o,h,_,0,_=>by rw[bq] at h;simpa using h.1
 |x::r,b,o,h,hw,i+1,hi=>by
  rw[bq] at h;obtain⟨cs,h1,h2⟩:=bq.get h.2 (fun y hy=>hw y (by simp[hy])) i (by simpa using hi);refine⟨cs,by simpa using h1,?_⟩;rw[hw x (by simp)] at h2
  rwa [show o+(i+1)*sz=o+sz+i*sz from by rw[Nat.add_mul];omega]
theorem bq.mk{w:World}{F:Nat->Prop}:∀ {xs:List D} {b o:Nat} {cs:List Value},au w F xs cs->av w b o cs->bq w F xs b o
 |[],_,_,_,_,_=>by rw[bq];trivial
 |x::r,b,o,cs,h,hc=>by
  rw[au] at h;obtain⟨c1,c2,rfl,h1,h2⟩:=h;rw[bq];refine⟨⟨c1,h1,fun j hj=>?_⟩,bq.mk h2 (fun j hj=>?_)⟩
  ·have:=hc j (by simp;omega)
   rwa [List.getElem_append_left hj] at this
  ·have:=hc (c1.length+j) (by simp;omega);rw[List.getElem_append_right (by omega)] at this;simpa[aM.length x c1 h1,Nat.add_assoc] using this
theorem au.append{w:World}{F:Nat->Prop}:∀ {xs ys:List D} {cs ds:List Value},au w F xs cs->au w F ys ds->au w F (xs++ys) (cs++ds)
 |[],_,_,_,h,k=>by rw[au] at h;subst h;simpa using k
 |x::r,ys,cs,ds,h,k=>by
  rw[au] at h;obtain⟨c1,c2,rfl,h1,h2⟩:=h;rw[List.cons_append,au];exact⟨c1,c2++ds,by simp,h1,au.append h2 k⟩
mutual
def D.bulk:D->Nat
 | .str s=>s.size+1
 | .sl xs=>bI xs+1
 | .st xs=>bI xs+1
 |_=>1
def bI:List D->Nat
 |[]=>0
 |x::r=>x.bulk+bI r
end
theorem EM(x:D):1<=x.bulk:=by cases x<;>simp[D.bulk]
theorem Ba{x:D}:∀ {l:List D},x∈l->x.bulk<=bI l
 |y::r,h=>by
  rw[bI];cases List.mem_cons.1 h with
  |inl e=>subst e;omega
  |inr e=>have:=Ba e;omega
theorem gp:∀l:List D,l.length<=bI l
 |[]=>by simp[bI]
 |x::r=>by have:=gp r;have:=EM x;simp[bI];omega
theorem aM.slice{w:World}{F:Nat->Prop}{xs:List D}{b o cap:Nat}{a:Option Addr}(hs:fF F a b o xs.length)(h1:xs.length<=cap)(h2:cap<=maxLen)(h:bq w F xs b o):aM w F (.sl xs) [.slice a xs.length cap]:=by
 rw[aM];exact⟨a,b,o,cap,rfl,hs,h1,h2,h⟩
theorem boxed{o:Obj}(hb:Below B (w.alloc o) w1)(hB:w.heap.size<B):w1.heap[w.heap.size]?=some o:=by
 rw[hb.block _ hB];show(w.heap.push o)[w.heap.size]?=some o;simp
theorem cH{cs:Array Value}(h:w.heap[b]?=some (.cells cs t fz)){v:Value}(hv:cs[i]?=some v):w.cell? ⟨b,i,none⟩=some v:=by
 simp[World.cell?,h,hv]
theorem Below.ahead{o:Obj}(hb:Below B (w.alloc o) w1)(hB:w.heap.size<=B):Below w.heap.size w w1:=((Below.refl _ w).alloc (Nat.le_refl _) o).trans (hb.mono hB)
mutual
def D.of{H:Type}:DataW H->D
 | .lit (.int k n)=>.int k n
 | .lit (.bool b)=>.bool b
 | .lit (.string bs)=>.str ⟨bs.toArray⟩
 | .lit _=>.bool false
 | .nil=>.sl []
 | .slice es _=>.sl (D.gI es)
 | .agg ps=>.st (D.gI ps)
 |_=>.bool false
def D.gI{H:Type}:List (DataW H)->List D
 |[]=>[]
 |d::r=>D.of d::D.gI r
end
theorem D.lI{H:Type}:∀l:List (DataW H),D.gI l=l.map D.of
 |[]=>rfl
 |d::r=>by rw[D.gI,D.lI r];rfl
def yQ(P:Program):List Field->Nat->Nat->Bool
 |[],o,n=>o==n
 |f::r,o,n=>f.offset==o&&yQ P r (o+P.cellsOf f.type) n
def plainType(P:Program)(T:List TypeId)(t:TypeId):Bool:=
 match P.underlying t with
 |some .bool|some (.int _)|some .string=>P.cellsOf t==1
 |some (.slice e)=>T.contains e&&P.cellsOf t==1&&decide (0<P.cellsOf e)
 |some (.struct fs)=>fs.toList.all (fun f=>T.contains f.type)&&yQ P fs.toList 0 (P.cellsOf t)
 |_=>false
def ni(P:Program)(T:List TypeId):Bool:=T.all (plainType P T)
def Fits(P:Program):Nat->TypeId->D->Prop
 |0,_,_=>False
 |n+1,t,x=>
  match P.underlying t with
  |some .bool=>∃b,x=.bool b
  |some (.int k)=>∃m,x=.int k m/\(Lit.int k m).wf=true
  |some .string=>∃s,x=.str s/\s.size<=maxLen
  |some (.slice e)=>∃xs,x=.sl xs/\∀y∈xs,Fits P n e y
  |some (.struct fs)=>∃xs,x=.st xs/\xs.length=fs.toList.length/\∀(i:Nat) (f:Field) (y:D),fs.toList[i]?=some f->xs[i]?=some y->Fits P n f.type y
  |_=>False
theorem mapM_some{α β:Type}{f:α->Option β}:∀ {l:List α} {r:List β},l.mapM f=some r->r.length=l.length/\∀(i:Nat) (a:α) (b:β),l[i]?=some a->r[i]?=some b->f a=some b
 |[],r,h=>by simp at h;subst h;simp
 |x::l,r,h=>by
  simp only[List.mapM_cons,Option.bind_eq_bind,Option.bind_eq_some_iff] at h;obtain⟨y,hy,ys,hys,hr⟩:=h;simp at hr;subst hr;obtain⟨h1,h2⟩:=mapM_some hys;refine⟨by simp[h1],fun i a b ha hb=>?_⟩;cases i with
  |zero=>simp at ha hb;subst ha hb;exact hy
  |succ i=>exact h2 i a b (by simpa using ha) (by simpa using hb)
theorem wC(h:w.cell? a=some v):a.spot=none:=by
 unfold World.cell? at h;split at h
 ·split at h
  ·cases h
  ·cases hs:a.spot<;>simp_all
 ·cases h
theorem uy{n:Nat}(h:w.cells? 0 a n=some cs):cs.length=n/\(0<n->a.block<w.heap.size)/\∀j (hj:j<cs.length),w.cell? (a.add j)=some cs[j]:=by
 unfold World.cells? at h;rw[if_pos (Nat.zero_le _)] at h;obtain⟨h1,h2⟩:=mapM_some h;have hc:∀j (hj:j<cs.length),w.cell? (a.add j)=some cs[j]:=fun j hj=>h2 j j cs[j] (by rw[h1,List.length_range] at hj;simp[hj]) (by simp[hj]);refine⟨by simpa using h1,fun hn=>?_,hc⟩;have h0:=hc 0 (by simp at h1;omega);unfold Addr.add at h0;rw[if_pos rfl] at h0;unfold World.cell? at h0;split at h0
 ·rename_i hb;exact(gS hb).1
 ·cases h0
theorem add_add(a:Addr)(i j:Nat)(hs:a.spot=none):(a.add i).add j=⟨a.block,a.off+i+j,none⟩:=by
 cases a with|mk b o s=>?_
 simp at hs;subst hs;unfold Addr.add;by_cases hi:i=0<;>by_cases hj:j=0<;>simp[hi,hj]
theorem row_of{w:World}{F:Nat->Prop}{sz:Nat}{b:Nat}:∀(xs:List D) (o:Nat),(∀(i:Nat) (x:D),xs[i]?=some x->x.width=sz/\∃cs,aM w F x cs/\av w b (o+i*sz) cs)->bq w F xs b o
 |[],_,_=>by rw[bq];trivial
 |x::r,o,h=>by
  rw[bq];obtain⟨h0,h1⟩:=h 0 x (by simp);refine⟨by simpa using h1,row_of (sz:=sz) r _ (fun i y hy=>?_)⟩;obtain⟨k0,cs,k1,k2⟩:=h (i+1) y (by simpa using hy);refine⟨k0,cs,k1,?_⟩;rw[h0]
  rwa [show o+(i+1)*sz=o+sz+i*sz from by rw[Nat.add_mul];omega] at k2
theorem yR{P:Program}{w:World}{F:Nat->Prop}:∀(fs:List Field) (xs:List D) (o n:Nat) (cs:List Value),yQ P fs o n=true->cs.length=n->o<=n->xs.length=fs.length->
  (∀(i:Nat) (f:Field) (x:D),fs[i]?=some f->xs[i]?=some x->aM w F x ((cs.drop f.offset).take (P.cellsOf f.type))/\((cs.drop f.offset).take (P.cellsOf f.type)).length=P.cellsOf f.type)->au w F xs (cs.drop o)
 |[],[],o,n,cs,ht,hl,_,_,_=>by
  simp[yQ] at ht;subst ht;rw[au];simp;omega
 |[],x::r,_,_,_,_,_,_,h,_=>by simp at h
 |f::fs,[],_,_,_,_,_,_,h,_=>by simp at h
 |f::fs,x::xs,o,n,cs,ht,hl,ho,hx,h=>by
  simp[yQ] at ht;obtain⟨ho',ht⟩:=ht;obtain⟨h0,h1⟩:=h 0 f x (by simp) (by simp);rw[ho'] at h0 h1;rw[au];have hle:o+P.cellsOf f.type<=n:=by
   rw[List.length_take,List.length_drop] at h1;omega
  refine⟨_,_,(List.take_append_drop (P.cellsOf f.type) (cs.drop o)).symm,h0,?_⟩;rw[List.drop_drop];exact yR fs xs _ n cs ht hl hle (by simpa using hx) (fun i g y hg hy=>h (i+1) g y (by simpa using hg) (by simpa using hy))
theorem xq(s:ByteArray):(⟨s.data.toList.toArray⟩:ByteArray)=s:=by cases s;simp
theorem kM{H:Type}{enc:TypeId×Value->H}{P:Program}{w:World}{spare:Nat->Bool}{held:Bool}{T:List TypeId}(hT:ni P T=true):
  ∀(fuel:Nat) (t:TypeId) (cs:List Value) (d:DataW H) (p:List MemPlace),t∈T->DataW.trod enc P w 0 spare held fuel t cs=some (d,p)->
   aM w (·<w.heap.size) (D.of d) cs/\Fits P fuel t (D.of d)/\cs.length=P.cellsOf t
 |0,_,_,_,_,_,h=>by simp[DataW.trod] at h
 |fuel+1,t,cs,d,p,ht,h=>by
  have hp:plainType P T t=true:=List.all_eq_true.1 hT t ht;unfold plainType at hp;rw[DataW.trod.eq_def] at h;rw[Fits];simp only at h;cases hu:P.underlying t with
  |none=>rw[hu] at hp;cases hp
  |some u=>
   rw[hu] at hp h;cases u with
   |bool=>
    simp at hp;split at h<;>try(simp_all;done)
    simp at h;obtain⟨rfl,rfl⟩:=h;exact⟨by simp[D.of,aM],⟨_,by rw[D.of]⟩,by simp[hp]⟩
   |int k=>
    simp at hp;split at h<;>try(simp_all;done)
    rename_i k' k'' n hk;split at h<;>try(simp_all;done)
    rename_i hw;simp at h;obtain⟨rfl,rfl⟩:=h;simp at hk;subst hk;obtain⟨rfl,hw⟩:=hw;exact⟨by rw[D.of,aM];exact⟨rfl,hw⟩,⟨_,by rw[D.of],hw⟩,by simp[hp]⟩
   |string=>
    simp at hp;split at h<;>try(simp_all;done)
    split at h<;>try(simp_all;done)
    rename_i hw;simp at h;obtain⟨rfl,rfl⟩:=h;exact⟨by rw[D.of,aM,xq];exact⟨rfl,hw⟩,⟨_,by rw[D.of,xq],hw⟩,by simp[hp]⟩
   |slice e=>
    simp at hp;split at h<;>try(simp_all;done)
    ·simp at h;obtain⟨rfl,rfl⟩:=h;refine⟨?_,⟨[],by rw[D.of],by simp⟩,by simp[hp]⟩;rw[D.of];exact aM.slice (xs:=[]) (b:=0) (o:=0) (a:=none) (fun h=>by simp at h) (Nat.le_refl _) (Nat.zero_le _) (by rw[bq];trivial)
    ·rename_i e' a len cap hk;simp at hk;subst hk;split at h<;>try(simp_all;done)
     rename_i hc;simp only[Option.bind_eq_some_iff,Option.map_eq_some_iff,Prod.mk.injEq] at h;obtain⟨elems,he,rest,_,rfl,rfl⟩:=h;obtain⟨hl,hi⟩:=mapM_some he;have key:∀(i:Nat) (y:DataW H×List MemPlace),elems[i]?=some y->∃cs,w.cells? 0 (a.add (i*P.cellsOf e)) (P.cellsOf e)=some cs/\aM w (·<w.heap.size) (D.of y.1) cs/\Fits P fuel e (D.of y.1)/\cs.length=P.cellsOf e:=by
      intro i y hy;have hil:i<len:=by have:=(List.getElem?_eq_some_iff.1 hy).1;simp at hl;omega
      have:=hi i i y (by simp[hil]) hy;simp only[Option.bind_eq_some_iff] at this;obtain⟨cs,h1,h2⟩:=this;obtain⟨g1,g2,g3⟩:=kM hT fuel e cs y.1 y.2 (by simpa using hp.1.1) (by rw[h2]);exact⟨cs,h1,g1,g2,g3⟩
     have hlen:(D.gI (elems.map (·.1))).length=len:=by rw[D.lI];simp at hl;simp[hl]
     have hget:∀(i:Nat) (x:D),(D.gI (elems.map (·.1)))[i]?=some x->∃y,elems[i]?=some y/\x=D.of y.1:=by
      intro i x hx;rw[D.lI] at hx;simp only[List.getElem?_map,Option.map_eq_some_iff] at hx;obtain⟨z,⟨y,hy,rfl⟩,rfl⟩:=hx;exact⟨y,hy,rfl⟩
     refine⟨?_,⟨D.gI (elems.map (·.1)),by rw[D.of],?_⟩,by simp[hp.1.2]⟩
     ·rw[D.of];have hw1:∀(i:Nat) (x:D),(D.gI (elems.map (·.1)))[i]?=some x->x.width=P.cellsOf e:=by
       intro i x hx;obtain⟨y,hy,rfl⟩:=hget i x hx;obtain⟨cs,_,g1,_,g3⟩:=key i y hy;rw[<-aM.length _ _ g1,g3]
      have hsp:0<len->a.spot=none/\a.block<w.heap.size:=by
       intro h0;obtain⟨y,hy⟩:∃y,elems[0]?=some y:=by
        simp at hl;exact⟨elems[0],by simp⟩
       obtain⟨cs,g0,g1,_,g3⟩:=key 0 y hy;obtain⟨c1,c2,c3⟩:=uy g0;have c4:=c3 0 (by omega);simp[Addr.add] at c4 c2;exact⟨wC c4,c2 hp.2⟩
      rw[show len=(D.gI (elems.map (·.1))).length from hlen.symm];refine aM.slice (b:=a.block) (o:=a.off) (fun h0=>?_) (by rw[hlen];exact hc.2.1) hc.2.2 (row_of (sz:=P.cellsOf e) _ _ (fun i x hx=>⟨hw1 i x hx,?_⟩))
      ·obtain⟨s1,s2⟩:=hsp (by rw[hlen] at h0;exact h0);refine⟨?_,s2⟩;cases a;simp at s1;subst s1;rfl
      ·obtain⟨y,hy,rfl⟩:=hget i x hx;obtain⟨cs,g0,g1,_,g3⟩:=key i y hy;obtain⟨c1,c2,c3⟩:=uy g0;have hil:i<len:=by have:=(List.getElem?_eq_some_iff.1 hy).1;simp at hl;omega
       refine⟨cs,g1,fun j hj=>?_⟩;have:=c3 j hj
       rwa [add_add _ _ _ (hsp (by omega)).1] at this
     ·intro x hx;obtain⟨i,hi2⟩:=List.mem_iff_getElem?.1 hx;obtain⟨y,hy,rfl⟩:=hget i x hi2;obtain⟨cs,_,_,g2,_⟩:=key i y hy;exact g2
   |struct fs=>
    simp at hp;change (if cs.length=P.cellsOf t then(fs.toList.mapM fun f=>DataW.trod enc P w 0 spare held fuel f.type ((cs.drop f.offset).take (P.cellsOf f.type))).map fun xs=>(DataW.agg (xs.map (·.1)),xs.flatMap (·.2)) else none)=some (d,p) at h;by_cases hc:cs.length=P.cellsOf t;rotate_left
    ·rw[if_neg hc] at h;cases h
    rw[if_pos hc] at h;simp only[Option.map_eq_some_iff,Prod.mk.injEq] at h;obtain⟨ys,he,rfl,rfl⟩:=h;obtain⟨hl,hi⟩:=mapM_some he;have hget:∀(i:Nat) (x:D),(D.gI (ys.map (·.1)))[i]?=some x->∃y,ys[i]?=some y/\x=D.of y.1:=by
     intro i x hx;rw[D.lI] at hx;simp only[List.getElem?_map,Option.map_eq_some_iff] at hx;obtain⟨z,⟨y,hy,rfl⟩,rfl⟩:=hx;exact⟨y,hy,rfl⟩
    have hlen:(D.gI (ys.map (·.1))).length=fs.toList.length:=by rw[D.lI];simp[hl]
    have key:∀(i:Nat) (f:Field) (x:D),fs.toList[i]?=some f->(D.gI (ys.map (·.1)))[i]?=some x->
      aM w (·<w.heap.size) x ((cs.drop f.offset).take (P.cellsOf f.type))/\Fits P fuel f.type x/\((cs.drop f.offset).take (P.cellsOf f.type)).length=P.cellsOf f.type:=by
     intro i f x hf hx;obtain⟨y,hy,rfl⟩:=hget i x hx;have h2:=hi i f y hf hy;have hm:f∈fs.toList:=List.mem_of_getElem? hf;exact kM hT fuel f.type _ y.1 y.2 (by obtain⟨k,hk,rfl⟩:=List.mem_iff_getElem.1 hm;simpa using hp.1 k (by simpa using hk)) (by rw[h2])
    refine⟨?_,⟨D.gI (ys.map (·.1)),by rw[D.of],hlen,fun i f x hf hx=>(key i f x hf hx).2.1⟩,hc⟩;rw[D.of,aM];have:=yR (P:=P) (w:=w) (F:=(·<w.heap.size)) fs.toList (D.gI (ys.map (·.1))) 0 (P.cellsOf t) cs hp.2 hc (Nat.zero_le _) hlen (fun i f x hf hx=>⟨(key i f x hf hx).1,(key i f x hf hx).2.2⟩);simpa using this
   |_=>simp at hp
def vw(P:Program)(n:Nat):List TypeId->List D->Prop
 |[],[]=>True
 |t::ts,x::xs=>Fits P n t x/\vw P n ts xs
 |_,_=>False
theorem rE{P:Program}{n:Nat}:∀(fs:List Field) (xs:List D),xs.length=fs.length->(∀(i:Nat) (f:Field) (y:D),fs[i]?=some f->xs[i]?=some y->Fits P n f.type y)->vw P n (fs.map (·.type)) xs
 |[],[],_,_=>trivial
 |[],_::_,h,_=>by simp at h
 |_::_,[],h,_=>by simp at h
 |f::fs,x::xs,hl,h=>⟨h 0 f x rfl rfl,rE fs xs (by simpa using hl) (fun i g y hg hy=>h (i+1) g y (by simpa using hg) (by simpa using hy))⟩
theorem Fits.struct{P:Program}{n:Nat}{t:TypeId}{x:D}{fs:Array Field}{ts:List TypeId}(hu:P.underlying t=some (.struct fs))(hts:fs.toList.map (·.type)=ts)(h:Fits P n t x):
  ∃m xs,n=m+1/\x=.st xs/\vw P m ts xs:=by
 cases n with
 |zero=>exact h.elim
 |succ n=>
  rw[Fits,hu] at h;obtain⟨xs,rfl,hl,hx⟩:=h;exact⟨n,xs,rfl,rfl,by rw[<-hts];exact rE _ _ hl hx⟩
theorem Fits.slice{P:Program}{n:Nat}{t e:TypeId}{x:D}(hu:P.underlying t=some (.slice e))(h:Fits P n t x):∃m xs,n=m+1/\x=.sl xs/\∀y∈xs,Fits P m e y:=by
 cases n with
 |zero=>exact h.elim
 |succ n=>
  rw[Fits,hu] at h;obtain⟨xs,rfl,hx⟩:=h;exact⟨n,xs,rfl,rfl,hx⟩
theorem Fits.int{P:Program}{n:Nat}{t:TypeId}{x:D}{k:IntKind}(hu:P.underlying t=some (.int k))(h:Fits P n t x):∃m,x=.int k m/\(Lit.int k m).wf=true:=by
 cases n with
 |zero=>exact h.elim
 |succ n=>rw[Fits,hu] at h;exact h
theorem Fits.bool{P:Program}{n:Nat}{t:TypeId}{x:D}(hu:P.underlying t=some .bool)(h:Fits P n t x):∃b,x=.bool b:=by
 cases n with
 |zero=>exact h.elim
 |succ n=>rw[Fits,hu] at h;exact h
theorem Fits.str{P:Program}{n:Nat}{t:TypeId}{x:D}(hu:P.underlying t=some .string)(h:Fits P n t x):∃s,x=.str s/\s.size<=maxLen:=by
 cases n with
 |zero=>exact h.elim
 |succ n=>rw[Fits,hu] at h;exact h
theorem Bi{α:Type}{f:α->D}:∀ {xs:List D},(∀y∈xs,∃a,y=f a)->∃l:List α,xs=l.map f
 |[],_=>⟨[],rfl⟩
 |x::r,h=>by
  obtain⟨a,rfl⟩:=h x (by simp);obtain⟨l,rfl⟩:=Bi (xs:=r) (f:=f) (fun y hy=>h y (by simp[hy]));exact⟨a::l,rfl⟩
theorem Fits.dR{f:α->D}{n:Nat}{x:D}(hu:P.underlying t=some (.slice e))(h:Fits P n t x)(he:∀m y,m<n->Fits P m e y->∃a,y=f a):∃l:List α,x=.sl (l.map f):=by
 obtain⟨m,xs,rfl,rfl,hx⟩:=h.slice hu;obtain⟨l,rfl⟩:=Bi (f:=f) (fun y hy=>he m y (by omega) (hx y hy));exact⟨l,rfl⟩
theorem wf_i64{n:Int}(h:(Lit.int .i64 n).wf=true): -9223372036854775808<=n/\n<=9223372036854775807:=by
 have:IntKind.i64.min= -9223372036854775808:=by decide
 simpa[Lit.wf,this] using h
structure Mod (S:Nat->Prop) (w w':World):Prop where
 os:w'.os=w.os
 tape:w'.tape=w.tape
 output:w'.output=w.output
 size:w.heap.size<=w'.heap.size
 block:∀k,k<w.heap.size->¬S k->w'.heap[k]?=w.heap[k]?
theorem Mod.refl(S:Nat->Prop)(w:World):Mod S w w:=⟨rfl,rfl,rfl,Nat.le_refl _,fun _ _ _=>rfl⟩
theorem Mod.trans{S T:Nat->Prop}{a b c:World}(h:Mod S a b)(k:Mod T b c)(hT:∀i,i<a.heap.size->T i->S i):Mod S a c:=
 ⟨k.os.trans h.os,k.tape.trans h.tape,k.output.trans h.output,Nat.le_trans h.size k.size,
  fun i hi hs=>(k.block i (Nat.lt_of_lt_of_le hi h.size) (fun ht=>hs (hT i hi ht))).trans (h.block i hi hs)⟩
theorem Mod.mono{T:Nat->Prop}{a b:World}(h:Mod S a b)(hT:∀i,S i->T i):Mod T a b:=
 ⟨h.os,h.tape,h.output,h.size,fun i hi hs=>h.block i hi (fun ht=>hs (hT i ht))⟩
theorem Mod.of_below(h:Below w.heap.size w w'):Mod S w w':=⟨h.os,h.tape,h.output,h.size,fun k hk _=>h.block k hk⟩
theorem Mod.sj(h:w.grownBy w' r)(hr:∀k,r=some k->S k):Mod S w w':=
 ⟨h.os,h.tape,h.output,h.size,fun k hk hs=>h.block k hk (fun e=>hs (hr k e.symm))⟩
theorem Mod.below(h:Mod S w w')(hB:B<=w.heap.size)(hS:∀k,S k->B<=k):Below B w w':=
 ⟨h.os,h.tape,h.output,h.size,fun k hk=>h.block k (by omega) (fun hs=>by have:=hS k hs;omega)⟩
theorem Mod.setCell{S:Nat->Prop}{a w:World}(h:Mod S a w){p:Addr}(hp:p.block<a.heap.size->S p.block)(u:Value):Mod S a (w.setCell p u):=
 h.trans (T:=fun k=>k=p.block) ⟨rfl,rfl,rfl,by simp[World.setCell],fun k _ hk=>Below.heap_setCell _ _ _ _ hk⟩ (fun i hi e=>by subst e;exact hp hi)
theorem Mod.alloc{S:Nat->Prop}{a w:World}(h:Mod S a w)(o:Obj):Mod S a (w.alloc o):=
 h.trans (T:=fun _=>False) ⟨rfl,rfl,rfl,by simp,fun k hk _=>Below.heap_alloc _ _ _ hk⟩ (fun _ _ e=>e.elim)
theorem Mod.drew{S:Nat->Prop}{a w:World}(h:Mod S a w):Mod S a w.drew:=⟨h.os,h.tape,h.output,h.size,h.block⟩
theorem Mod.agree(h:Mod S w w')(hF:∀k,F k->k<w.heap.size/\¬S k):Agree F w w':=fun k hk=>h.block k (hF k hk).1 (hF k hk).2
theorem bq.cells{w:World}{F:Nat->Prop}:∀ {xs:List D} {b o:Nat},bq w F xs b o->∃cs,au w F xs cs/\av w b o cs
 |[],_,_,_=>⟨[],by rw[au],fun j hj=>by simp at hj⟩
 |x::r,b,o,h=>by
  rw[bq] at h;obtain⟨⟨c1,h1,h2⟩,hr⟩:=h;obtain⟨c2,h3,h4⟩:=hr.cells;refine⟨c1++c2,by rw[au];exact⟨c1,c2,rfl,h1,h3⟩,fun j hj=>?_⟩;by_cases hlt:j<c1.length
  ·rw[List.getElem_append_left hlt];exact h2 j hlt
  ·rw[List.getElem_append_right (by omega)];have:=h4 (j-c1.length) (by simp at hj;omega);have hw:=aM.length x c1 h1
   rwa [show o+x.width+(j-c1.length)=o+j from by omega] at this
mutual
theorem aM.one{w:World}{F:Nat->Prop}:∀(x:D) (cs:List Value),aM w F x cs->∀u∈cs,u.oneCell'=true
 | .int _ _,_,h=>by rw[aM] at h;obtain⟨rfl,_⟩:=h;simp[Value.oneCell']
 | .bool _,_,h=>by rw[aM] at h;subst h;simp[Value.oneCell']
 | .str _,_,h=>by rw[aM] at h;obtain⟨rfl,_⟩:=h;simp[Value.oneCell']
 | .sl _,_,h=>by rw[aM] at h;obtain⟨_,_,_,_,rfl,_⟩:=h;simp[Value.oneCell']
 | .st xs,cs,h=>by rw[aM] at h;exact au.one xs cs h
theorem au.one{w:World}{F:Nat->Prop}:∀(xs:List D) (cs:List Value),au w F xs cs->∀u∈cs,u.oneCell'=true
 |[],_,h=>by rw[au] at h;subst h;simp
 |x::r,cs,h=>by
  rw[au] at h;obtain⟨c1,c2,rfl,h1,h2⟩:=h;intro u hu;rcases List.mem_append.1 hu with hu|hu
  ·exact aM.one x c1 h1 u hu
  ·exact au.one r c2 h2 u hu
end
theorem aM.source{xs:List D}(h:aM w F (.sl xs) [v])(hn:0<xs.length):
  ∃b o cap cs,v=.slice (some ⟨b,o,none⟩) xs.length cap/\au w F xs cs/\(∀j u,cs[j]?=some u->w.cell? ((⟨b,o,none⟩:Addr).add j)=some u)/\(∀u∈cs,u.oneCell'=true)/\F b:=by
 rw[aM] at h;obtain⟨a,b,o,cap,e,hs,_,_,hr⟩:=h;obtain⟨rfl,hb⟩:=hs hn;obtain⟨cs,h1,h2⟩:=hr.cells;simp only[List.cons.injEq,and_true] at e;refine⟨b,o,cap,cs,e,h1,fun j u hu=>?_,au.one _ _ h1,hb⟩;obtain⟨hj,rfl⟩:=List.getElem?_eq_some_iff.1 hu;have:=h2 j hj;unfold Addr.add;by_cases h0:j=0
 ·subst h0;simpa using this
 ·rw[if_neg h0];exact this
structure Own (w:World) (F:Nat->Prop) (e:TypeId) (sz:Nat) (v:Value) (r:Option Nat) (xs:List D):Prop where
 cells:∃cs,w.ownsRow 0 e sz v xs.length cs/\au w F xs cs
 row:v.ownBlock=r
 off:∀k,r=some k->¬F k
 lt:∀k,F k->k<w.heap.size
theorem Own.nil(w:World)(F:Nat->Prop)(e:TypeId)(sz:Nat)(lt:∀k,F k->k<w.heap.size):Own w F e sz (.slice none 0 0) none []:=
 ⟨⟨[],World.ownsRow_nil w 0 e sz,by rw[au]⟩,rfl,fun _ h=>(by cases h),lt⟩
theorem Own.gX{xs:List D}(h:Own w F e sz v r xs){k:Nat}(hr:r=some k):k<w.heap.size:=by
 obtain⟨cs,h1,_⟩:=h.cells;exact(h1.lt k (h.row.trans hr)).2
theorem Own.kept{xs:List D}(h:Own w F e sz v r xs){S:Nat->Prop}(hm:Mod S w w')(hF:∀k,F k->¬S k)(hr:∀k,r=some k->¬S k):Own w' F e sz v r xs:=by
 obtain⟨cs,⟨h1,h2⟩,h3⟩:=h.cells;refine⟨⟨cs,⟨h1,?_⟩,au.agree (hm.agree (fun k hk=>⟨h.lt k hk,hF k hk⟩)) _ _ h3⟩,h.row,h.off,fun k hk=>Nat.lt_of_lt_of_le (h.lt k hk) hm.size⟩;rcases h2 with h2|⟨g,cap,cur,hv,hg,hh,rest⟩
 ·exact .inl h2
 ·have hrow:r=some g:=by rw[<-h.row,hv];rfl
  refine .inr ⟨g,cap,cur,hv,hg,?_,rest⟩;rw[hm.block g (h.gX hrow) (hr g hrow)];exact hh
theorem Own.widen{xs:List D}(h:Own w F e sz v r xs)(lh:∀k,F k->G k)(hr:∀k,r=some k->¬G k)(hlt:∀k,G k->k<w.heap.size):Own w G e sz v r xs:=by
 obtain⟨cs,h1,h2⟩:=h.cells;exact⟨⟨cs,h1,au.mono lh _ _ h2⟩,h.row,hr,hlt⟩
theorem Own.appended{v':Value}{xs ys:List D}{news:List Value}(h:Own w F e sz v r xs)(hcs:au w F xs cs)(h1:w'.ownsRow 0 e sz v' (xs.length+ys.length) (cs++news))(hg:w.grownBy w' v.ownBlock)(hat:v'.ownBlock=v.ownBlock∨v'.ownBlock=some w.heap.size)(hn:au w F ys news):
  Own w' F e sz v' v'.ownBlock (xs++ys)/\Mod (fun k=>r=some k) w w'/\(v'.ownBlock=r∨v'.ownBlock=some w.heap.size):=by
 have hm:Mod (fun k=>r=some k) w w':=Mod.sj hg (fun k hk=>by rw[<-h.row];exact hk);have ha:Agree F w w':=hm.agree (fun k hk=>⟨h.lt k hk,fun hr=>h.off k hr hk⟩);refine⟨⟨⟨cs++news,by rw[List.length_append];exact h1,au.append (au.agree ha _ _ hcs) (au.agree ha _ _ hn)⟩,rfl,fun k hk hF=>?_,fun k hk=>Nat.lt_of_lt_of_le (h.lt k hk) hm.size⟩,hm,by rw[<-h.row];exact hat⟩;rcases hat with hat|hat
 ·exact h.off k (by rw[<-h.row,<-hat];exact hk) hF
 ·rw[hat] at hk;have:=h.lt k hF;simp at hk;omega
theorem Own.read{xs:List D}(h:Own w F e sz v r xs)(lh:∀k,F k->G k)(hr:∀k,r=some k->G k)(hw:bz xs=xs.length*sz):aM w G (.sl xs) [v]:=by
 obtain⟨cs,h1,h2⟩:=h.cells;have h1':=h1;obtain⟨hlen,h1⟩:=h1;rcases h1 with⟨rfl,hn⟩|⟨g,cap,cur,rfl,_,hh,hc1,hc2,hc3,hc4⟩
 ·obtain rfl:xs=[]:=List.length_eq_zero_iff.1 hn;exact aM.slice (xs:=[]) (b:=0) (o:=0) (a:=none) (fun h=>by simp at h) (Nat.le_refl _) (Nat.zero_le _) (by rw[bq];trivial)
 ·refine aM.slice (b:=g) (o:=0) (fun _=>⟨rfl,hr g (h.row▸rfl)⟩) hc1 hc2 (bq.mk (cs:=cs) (au.mono lh _ _ h2) (fun j hj=>?_));have:=h1'.cellAt (g:=g) (cap:=cap) j (by rw[<-hlen];exact hj);simp only[Nat.zero_add];rw[this];simp[hj]
theorem Own.lit{n:Nat}{xs:List D}(hn:xs.length=n)(hmx:n<=maxLen)(hl:cs.length=n*sz)(h:au w F xs cs)(lt:∀k,F k->k<w.heap.size):
  Own (w.alloc (.cells cs.toArray e)) F e sz (.slice (some ⟨w.heap.size,0,none⟩) n n) (some w.heap.size) xs:=by
 refine⟨⟨cs,?_,au.agree (fun k hk=>Below.heap_alloc _ _ _ (lt k hk)) _ _ h⟩,rfl,fun k hk hF=>by have:=lt k hF;simp at hk;omega,fun k hk=>by have:=lt k hk;simp;omega⟩;subst hn;exact⟨hl,.inr ⟨w.heap.size,xs.length,cs.toArray,rfl,Nat.zero_le _,by show(w.heap.push _)[w.heap.size]?=_;simp,Nat.le_refl _,hmx,by simp[hl],by simp[<-hl]⟩⟩
def aG(xs:List Int):List D:=xs.map (D.int .i64)
@[simp] theorem fI(xs:List Int):(aG xs).length=xs.length:=by simp[aG]
theorem nN(xs ys:List Int):aG (xs++ys)=aG xs++aG ys:=by simp[aG]
theorem fJ:∀xs:List Int,bz (aG xs)=xs.length
 |[]=>rfl
 |x::r=>by
  have:=fJ r;simp only[aG,List.map_cons,bz,D.width] at this ⊢;simp only[List.length_cons];omega
def ve(xs:List Int):Prop:=∀x∈xs,-9223372036854775808<=x/\x<=9223372036854775807
theorem au.ints{w:World}{F:Nat->Prop}:∀ {xs:List Int},ve xs->au w F (aG xs) (xs.map (Value.int .i64))
 |[],_=>by rw[aG,List.map_nil,au];rfl
 |x::r,h=>by
  rw[aG,List.map_cons,au];exact⟨[.int .i64 x],r.map (Value.int .i64),rfl,by rw[aM];exact⟨rfl,WalkArith.wf_i64 (h x (by simp))⟩,au.ints (fun y hy=>h y (by simp[hy]))⟩
theorem Own.form{xs:List D}(h:Own w F e sz v r xs):∃a cap,v=.slice a xs.length cap:=by
 obtain⟨cs,h1,_⟩:=h.cells;rcases h1.2 with⟨rfl,hn⟩|⟨g,cap,cur,rfl,_⟩
 ·exact⟨none,0,by rw[hn]⟩
 ·exact⟨_,cap,rfl⟩
structure Ia where
 c:List Int
 l:List Int
 least:Int
def Ia.toD(x:Ia):D:=.st [.sl (aG x.c),.sl (aG x.l),.int .i64 x.least]
theorem Ia.width(x:Ia):x.toD.width=3:=by simp[Ia.toD,D.width,bz]
theorem Ia.at{l:List Int}{vC vL:Value}(hC:aM w F (.sl (aG c)) [vC])(hL:aM w F (.sl (aG l)) [vL])(h: -9223372036854775808<=least/\least<=9223372036854775807):
  au w F [Ia.toD ⟨c,l,least⟩] [vC,vL,.int .i64 least]:=by
 rw[au];refine⟨_,[],(List.append_nil _).symm,?_,by rw[au]⟩;rw[Ia.toD,aM,au];refine⟨[vC],_,rfl,hC,?_⟩;rw[au];refine⟨[vL],_,rfl,hL,?_⟩;rw[au];exact⟨[.int .i64 least],[],rfl,by rw[aM];exact⟨rfl,WalkArith.wf_i64 h⟩,by rw[au]⟩
theorem aC{cs:Array Value}(u:Value)(h:w.heap[A]?=some (.cells cs t fz)):(w.setCell ⟨A,i,none⟩ u).heap[A]?=some (.cells (cs.setIfInBounds i u) t fz):=by
 simp[World.setCell,Array.getElem?_modify,h]
theorem fH{cs:Array Value}(h:w.heap[b]?=some (.cells cs t (0,0))):w.frozen? ⟨b,i,none⟩=false:=by
 simp[World.frozen?,h]
theorem Own.alloc{w:World}{F:Nat->Prop}{e:TypeId}{sz:Nat}{v:Value}{r:Option Nat}{xs:List D}(h:Own w F e sz v r xs)(o:Obj):Own (w.alloc o) F e sz v r xs:=
 h.kept (S:=fun _=>False) ((Mod.refl _ w).alloc o) (fun _ _ e=>e) (fun _ _ e=>e)
theorem Own.below{xs:List D}(h:Own w F e sz v r xs)(hb:Below w.heap.size w w'):Own w' F e sz v r xs:=
 h.kept (S:=fun _=>False) (Mod.of_below hb) (fun _ _ e=>e) (fun _ _ e=>e)
structure iW (w:World) (A:Nat) (tl ti:TypeId) (v1 v2:Value) (r1 r2:Nat) (c l:List Int) (least:Int):Prop where
 box:w.heap[A]?=some (.cells #[v1,v2,.int .i64 least] tl (0,0))
 o1:Own w (fun _=>False) ti 1 v1 (some r1) (aG c)
 o2:Own w (fun _=>False) ti 1 v2 (some r2) (aG l)
 n12:r1≠r2
 n1:r1≠A
 n2:r2≠A
theorem iW.kept{w w':World}{A:Nat}{tl ti:TypeId}{v1 v2:Value}{r1 r2:Nat}{c l:List Int}{least:Int}(h:iW w A tl ti v1 v2 r1 r2 c l least){S:Nat->Prop}(hm:Mod S w w')(hA:¬S A)(h1:¬S r1)(h2:¬S r2):iW w' A tl ti v1 v2 r1 r2 c l least:=
 ⟨(hm.block A (gS h.box).1 hA).trans h.box,h.o1.kept hm (fun _ e=>e.elim) (fun k hk=>by cases hk;exact h1),h.o2.kept hm (fun _ e=>e.elim) (fun k hk=>by cases hk;exact h2),h.n12,h.n1,h.n2⟩
theorem iW.alloc{w:World}{A:Nat}{tl ti:TypeId}{v1 v2:Value}{r1 r2:Nat}{c l:List Int}{least:Int}(h:iW w A tl ti v1 v2 r1 r2 c l least)(o:Obj):iW (w.alloc o) A tl ti v1 v2 r1 r2 c l least:=
 h.kept (S:=fun _=>False) ((Mod.refl _ w).alloc o) id id id
theorem iW.lt{l:List Int}(h:iW w A tl ti v1 v2 r1 r2 c l least):A<w.heap.size/\r1<w.heap.size/\r2<w.heap.size:=
 ⟨(gS h.box).1,h.o1.gX rfl,h.o2.gX rfl⟩
theorem iW.cells{l:List Int}(h:iW w A tl ti v1 v2 r1 r2 c l least):
  w.cell? ⟨A,0,none⟩=some v1/\w.cell? ⟨A,1,none⟩=some v2/\w.cell? ⟨A,2,none⟩=some (.int .i64 least)/\w.frozen? ⟨A,0,none⟩=false/\w.frozen? ⟨A,1,none⟩=false:=
 ⟨cH h.box rfl,cH h.box rfl,cH h.box rfl,fH h.box,fH h.box⟩
theorem iW.read{w:World}{G:Nat->Prop}{A:Nat}{tl ti:TypeId}{v1 v2:Value}{r1 r2:Nat}{c l:List Int}{least:Int}(h:iW w A tl ti v1 v2 r1 r2 c l least)(h1:G r1)(h2:G r2)(hl: -9223372036854775808<=least/\least<=9223372036854775807):
  au w G [Ia.toD ⟨c,l,least⟩] [v1,v2,.int .i64 least]:=
 Ia.at (h.o1.read (fun _ e=>e.elim) (fun k hk=>by cases hk;exact h1) (by rw[fJ];simp)) (h.o2.read (fun _ e=>e.elim) (fun k hk=>by cases hk;exact h2) (by rw[fJ];simp)) hl
abbrev Bs.str(l:Bs):ByteArray:=⟨l.toArray⟩
theorem aS(l:Bs):(⟨l.toArray⟩:ByteArray).size=l.length:=by show l.toArray.size=_;simp
theorem nK(s:ByteArray):∃l:Bs,s=⟨l.toArray⟩:=⟨s.data.toList,by cases s;simp⟩
def jh(n:Int):Prop:= -9223372036854775808<=n/\n<=9223372036854775807
theorem bg{a b:Bool}(h:a=b):Ending.returned (.bool a)=.returned (.bool b):=by rw[h]
theorem aP{k:IntKind}{a b:Int}(h:a=b):Ending.returned (.int k a)=.returned (.int k b):=by rw[h]
mutual
def D.oV:D->Bool
 | .sl _=>false
 | .st xs=>iw xs
 |_=>true
def iw:List D->Bool
 |[]=>true
 |x::r=>x.oV&&iw r
end
mutual
def D.vals:D->List Value
 | .int k n=>[.int k n]
 | .bool b=>[.bool b]
 | .str s=>[.string s]
 | .sl _=>[]
 | .st xs=>oG xs
def oG:List D->List Value
 |[]=>[]
 |x::r=>x.vals++oG r
end
mutual
def D.fine:D->Prop
 | .int k n=>(Lit.int k n).wf=true
 | .str s=>s.size<=maxLen
 | .st xs=>xH xs
 |_=>True
def xH:List D->Prop
 |[]=>True
 |x::r=>x.fine/\xH r
end
mutual
theorem aM.flat{w:World}{F:Nat->Prop}:∀(x:D) (cs:List Value),x.oV=true->(aM w F x cs↔cs=x.vals/\x.fine)
 | .int _ _,_,_=>by rw[aM,D.vals,D.fine]
 | .bool _,_,_=>by rw[aM,D.vals.eq_def,D.fine.eq_def];simp
 | .str _,_,_=>by rw[aM,D.vals,D.fine]
 | .sl _,_,h=>by simp[D.oV] at h
 | .st xs,cs,h=>by rw[aM,D.vals,D.fine];exact au.flat xs cs (by simpa[D.oV] using h)
theorem au.flat{w:World}{F:Nat->Prop}:∀(xs:List D) (cs:List Value),iw xs=true->(au w F xs cs↔cs=oG xs/\xH xs)
 |[],_,_=>by rw[au,oG,xH];simp
 |x::r,cs,h=>by
  rw[iw,Bool.and_eq_true] at h;rw[au,oG,xH];constructor
  ·rintro⟨c1,c2,rfl,h1,h2⟩;obtain⟨rfl,g1⟩:=(aM.flat x c1 h.1).1 h1;obtain⟨rfl,g2⟩:=(au.flat r c2 h.2).1 h2;exact⟨rfl,g1,g2⟩
  ·rintro⟨rfl,g1,g2⟩;exact⟨_,_,rfl,(aM.flat x _ h.1).2 ⟨rfl,g1⟩,(au.flat r _ h.2).2 ⟨rfl,g2⟩⟩
end
def eX{α:Type}(w:World)(f:α->D)(sz:Nat)(l:List α)(b o:Nat):Prop:=∀i (h:i<l.length),av w b (o+i*sz) (f l[i]).vals
structure jd {α:Type} (f:α->D) (sz:Nat):Prop where
 flat:∀x,(f x).oV=true
 width:∀x,(f x).width=sz
theorem bq.flat{α:Type}{f:α->D}{sz:Nat}(hf:jd f sz){w:World}{F:Nat->Prop}{l:List α}{b o:Nat}(h:bq w F (l.map f) b o):eX w f sz l b o/\∀x∈l,(f x).fine:=by
 have key:∀i (hi:i<l.length),av w b (o+i*sz) (f l[i]).vals/\(f l[i]).fine:=fun i hi=>by
  obtain⟨cs,h1,h2⟩:=h.get (sz:=sz) (fun x hx=>by obtain⟨y,_,rfl⟩:=List.mem_map.1 hx;exact hf.width y) i (by simpa using hi);rw[List.getElem_map] at h1;obtain⟨rfl,h3⟩:=(aM.flat _ _ (hf.flat _)).1 h1;exact⟨h2,h3⟩
 refine⟨fun i hi=>(key i hi).1,fun x hx=>?_⟩;obtain⟨i,hi,rfl⟩:=List.mem_iff_getElem.1 hx;exact(key i hi).2
theorem bq.of_flat{f:α->D}(hf:jd f sz){w:World}{F:Nat->Prop}{l:List α}{b o:Nat}(h:eX w f sz l b o)(hk:∀x∈l,(f x).fine):bq w F (l.map f) b o:=
 row_of (sz:=sz) _ _ (fun i x hx=>by
  simp only[List.getElem?_map,Option.map_eq_some_iff] at hx;obtain⟨y,hy,rfl⟩:=hx;obtain⟨hi,rfl⟩:=List.getElem?_eq_some_iff.1 hy;exact⟨hf.width _,_,(aM.flat _ _ (hf.flat _)).2 ⟨rfl,hk _ (List.getElem_mem hi)⟩,h i hi⟩)
theorem eX.agree{α:Type}{f:α->D}{sz:Nat}{F:Nat->Prop}{w w':World}{l:List α}{b o:Nat}(h:eX w f sz l b o)(ha:Agree F w w')(hb:0<l.length->F b):eX w' f sz l b o:=fun i hi=>(h i hi).agree ha (hb (by omega))
theorem eX.below{f:α->D}{l:List α}(h:eX w f sz l b o)(hb:Below B w w')(hlt:0<l.length->b<B):eX w' f sz l b o:=h.agree (af hb) hlt
theorem eX.one{f:α->D}{l:List α}(h:eX w f sz l b o)(i:Nat)(hi:i<l.length){c0:Value}(e:(f l[i]).vals=[c0]):w.cell? ⟨b,o+i*sz,none⟩=some c0:=by
 have:=h i hi;rw[e] at this;simpa using this 0 (by simp)
theorem eX.two{f:α->D}{l:List α}(h:eX w f sz l b o)(i:Nat)(hi:i<l.length){c0 c1:Value}(e:(f l[i]).vals=[c0,c1]):w.cell? ⟨b,o+i*sz,none⟩=some c0/\w.cell? ⟨b,o+i*sz+1,none⟩=some c1:=by
 have:=h i hi;rw[e] at this;exact⟨by simpa using this 0 (by simp),by simpa using this 1 (by simp)⟩
theorem eX.three{f:α->D}{l:List α}(h:eX w f sz l b o)(i:Nat)(hi:i<l.length){c0 c1 c2:Value}(e:(f l[i]).vals=[c0,c1,c2]):w.cell? ⟨b,o+i*sz,none⟩=some c0/\w.cell? ⟨b,o+i*sz+1,none⟩=some c1/\w.cell? ⟨b,o+i*sz+2,none⟩=some c2:=by
 have:=h i hi;rw[e] at this;exact⟨by simpa using this 0 (by simp),by simpa using this 1 (by simp),by simpa using this 2 (by simp)⟩
structure aB where
 a:Option Addr
 b:Nat
 o:Nat
 cap:Nat
abbrev aB.val(x:aB)(n:Nat):Value:=.slice x.a n x.cap
structure ak (w:World) (F:Nat->Prop) (xs:List D) (x:aB):Prop where
 at_:fF F x.a x.b x.o xs.length
 le:xs.length<=x.cap
 max:x.cap<=maxLen
 row:bq w F xs x.b x.o
theorem aM.bB{xs:List D}:aM w F (.sl xs) cs↔ ∃x:aB,cs=[x.val xs.length]/\ak w F xs x:=by
 rw[aM];constructor
 ·rintro⟨a,b,o,cap,h1,h2,h3,h4,h5⟩;exact⟨⟨a,b,o,cap⟩,h1,h2,h3,h4,h5⟩
 ·rintro⟨⟨a,b,o,cap⟩,h1,h2,h3,h4,h5⟩;exact⟨a,b,o,cap,h1,h2,h3,h4,h5⟩
theorem ak.agree{F:Nat->Prop}{w w':World}{xs:List D}{x:aB}(h:ak w F xs x)(ha:Agree F w w'):ak w' F xs x:=
 ⟨h.at_,h.le,h.max,bq.agree ha xs _ _ (fun hne=>(h.at_ (by cases xs<;>simp_all)).2) h.row⟩
theorem ak.mono{F G:Nat->Prop}{w:World}{xs:List D}{x:aB}(h:ak w F xs x)(lh:∀k,F k->G k):ak w G xs x:=⟨h.at_.mono lh,h.le,h.max,bq.mono lh _ _ _ h.row⟩
structure bV where
 kind:Int
 name:Bs
 n:Int
deriving DecidableEq
structure aH where
 name:Bs
 sort:Int
deriving DecidableEq
structure Ev where
 name:Bs
 sort:Int
 at_:Int
deriving DecidableEq
structure J8 where
 slot:Int
 room:Int
deriving DecidableEq
structure l6 where
 name:Bs
 day:Int
 hour:Int
deriving DecidableEq
structure nE where
 name:Bs
 house:Int
 seats:Int
 shut:List Int
deriving DecidableEq
structure pF where
 name:Bs
 away:List Int
deriving DecidableEq
structure oI where
 name:Bs
 size:Int
deriving DecidableEq
structure nH where
 name:Bs
 who:List Int
 groups:List Int
deriving DecidableEq
structure ax where
 slots:List l6
 ah:List nE
 people:List pF
 groups:List oI
 lessons:List nH
deriving DecidableEq
def bV.toD(x:bV):D:=.st [.int .i64 x.kind,.str ⟨x.name.toArray⟩,.int .i64 x.n]
def aH.toD(x:aH):D:=.st [.str ⟨x.name.toArray⟩,.int .i64 x.sort]
def Ev.toD(x:Ev):D:=.st [.str ⟨x.name.toArray⟩,.int .i64 x.sort,.int .i64 x.at_]
def J8.toD(x:J8):D:=.st [.int .i64 x.slot,.int .i64 x.room]
def l6.toD(x:l6):D:=.st [.str ⟨x.name.toArray⟩,.int .i64 x.day,.int .i64 x.hour]
def oI.toD(x:oI):D:=.st [.str ⟨x.name.toArray⟩,.int .i64 x.size]
def pF.toD(x:pF):D:=.st [.str ⟨x.name.toArray⟩,.sl (aG x.away)]
def nE.toD(x:nE):D:=.st [.str ⟨x.name.toArray⟩,.int .i64 x.house,.int .i64 x.seats,.sl (aG x.shut)]
def nH.toD(x:nH):D:=.st [.str ⟨x.name.toArray⟩,.sl (aG x.who),.sl (aG x.groups)]
def ax.toD(x:ax):D:=.st [.sl (x.slots.map l6.toD),.sl (x.ah.map nE.toD),.sl (x.people.map pF.toD),.sl (x.groups.map oI.toD),.sl (x.lessons.map nH.toD)]
theorem bV.bZ:jd bV.toD 3:=⟨fun _=>rfl,fun _=>rfl⟩
theorem aH.bZ:jd aH.toD 2:=⟨fun _=>rfl,fun _=>rfl⟩
theorem Ev.bZ:jd Ev.toD 3:=⟨fun _=>rfl,fun _=>rfl⟩
theorem J8.bZ:jd J8.toD 2:=⟨fun _=>rfl,fun _=>rfl⟩
theorem l6.bZ:jd l6.toD 3:=⟨fun _=>rfl,fun _=>rfl⟩
theorem oI.bZ:jd oI.toD 2:=⟨fun _=>rfl,fun _=>rfl⟩
theorem Int.bZ:jd (D.int .i64) 1:=⟨fun _=>rfl,fun _=>rfl⟩
inductive ag where
 |mk (kind:Int) (name:Bs) (n:Int) (terms:List bV) (binds:List aH) (l:List ag)
def ag.kind:ag->Int| .mk a _ _ _ _ _=>a
def ag.name:ag->Bs| .mk _ a _ _ _ _=>a
def ag.n:ag->Int| .mk _ _ a _ _ _=>a
def ag.terms:ag->List bV| .mk _ _ _ a _ _=>a
def ag.binds:ag->List aH| .mk _ _ _ _ a _=>a
def ag.l:ag->List ag| .mk _ _ _ _ _ a=>a
mutual
def ag.toD:ag->D
 | .mk kind name n terms binds l=>.st [.int .i64 kind,.str ⟨name.toArray⟩,.int .i64 n,.sl (terms.map bV.toD),.sl (binds.map aH.toD),.sl (ag.nA l)]
def ag.nA:List ag->List D
 |[]=>[]
 |t::r=>t.toD::ag.nA r
end
theorem ag.kK:∀l:List ag,ag.nA l=l.map ag.toD
 |[]=>rfl
 |t::r=>by rw[ag.nA,ag.kK r];rfl
theorem ag.width(f:ag):f.toD.width=6:=by cases f;simp[ag.toD,D.width,bz]
mutual
def ag.size:ag->Nat
 | .mk _ _ _ _ _ l=>1+aY l
def aY:List ag->Nat
 |[]=>0
 |t::r=>t.size+aY r
end
mutual
def ag.depth:ag->Nat
 | .mk _ _ _ _ _ l=>bN l+1
def bN:List ag->Nat
 |[]=>0
 |t::r=>max t.depth (bN r)
end
structure aV where
 name:Bs
 hard:Bool
 weight:Int
 each:List aH
 body:ag
def aV.toD(x:aV):D:=.st [.str ⟨x.name.toArray⟩,.bool x.hard,.int .i64 x.weight,.sl (x.each.map aH.toD),x.body.toD]
theorem aV.width(x:aV):x.toD.width=10:=by simp[aV.toD,D.width,bz,ag.width]
theorem j3:∀(l:List ag) (i:Nat) (h:i<l.length),aY (l.take (i+1))=aY (l.take i)+(l[i]).size
 |t::r,0,_=>by simp[aY]
 |t::r,i+1,h=>by
  simp only[List.take_succ_cons,aY,List.getElem_cons_succ];rw[j3 r i (by simpa using h)];omega
theorem gP:∀(l:List ag) (i:Nat),aY (l.take i)<=aY l
 |[],i=>by simp[aY]
 |t::r,0=>by simp[aY]
 |t::r,i+1=>by
  simp only[List.take_succ_cons,aY];have:=gP r i;omega
theorem ag.size_pos:∀t:ag,0<t.size| .mk _ _ _ _ _ _=>by simp only[ag.size];omega
theorem dH:∀(l:List ag),l.length<=aY l
 |[]=>by simp
 |t::r=>by
  have:=dH r;have:=t.size_pos;simp only[aY,List.length_cons];omega
theorem bQ(l:List ag)(i:Nat)(h:i<l.length):(l[i]).size<=aY l:=by
 have h1:=j3 l i h;have h2:=gP l (i+1);omega
theorem jY:∀(l:List ag) (i:Nat) (h:i<l.length),(l[i]).depth<=bN l
 |t::r,0,_=>by simp only[bN,List.getElem_cons_zero];omega
 |t::r,i+1,h=>by
  simp only[bN,List.getElem_cons_succ];have:=jY r i (by simpa using h);omega
theorem jK:∀(l:List ag) (i:Nat) (h:i<l.length),bN (l.take (i+1))=max (bN (l.take i)) (l[i]).depth
 |t::r,0,_=>by simp[bN]
 |t::r,i+1,h=>by
  simp only[List.take_succ_cons,bN,List.getElem_cons_succ];rw[jK r i (by simpa using h)];omega
mutual
theorem ag.mR:∀t:ag,t.depth<=t.size
 | .mk _ _ _ _ _ l=>by rw[ag.depth,ag.size];have:=iN l;omega
theorem iN:∀l:List ag,bN l<=aY l
 |[]=>by simp[bN]
 |t::r=>by rw[bN,aY];have:=ag.mR t;have:=iN r;omega
end
mutual
theorem ag.lS:∀t:ag,t.size<=t.toD.bulk
 | .mk _ _ _ _ _ l=>by rw[ag.size,ag.toD,D.bulk];simp only[bI,D.bulk];have:=ag.iQ l;omega
theorem ag.iQ:∀l:List ag,aY l<=bI (ag.nA l)
 |[]=>by simp[aY]
 |t::r=>by rw[aY,ag.nA,bI];have:=ag.lS t;have:=ag.iQ r;omega
end
structure aA where
 t:aB
 b:aB
 l:aB
abbrev aA.cells(x:aA)(f:ag):List Value:=[.int .i64 f.kind,.string ⟨f.name.toArray⟩,.int .i64 f.n,x.t.val f.terms.length,x.b.val f.binds.length,x.l.val f.l.length]
structure aJ (w:World) (F:Nat->Prop) (f:ag) (x:aA):Prop where
 kind:jh f.kind
 name:f.name.length<=maxLen
 n:jh f.n
 terms:ak w F (f.terms.map bV.toD) x.t
 binds:ak w F (f.binds.map aH.toD) x.b
 l:ak w F (f.l.map ag.toD) x.l
theorem jh.wf{n:Int}(h:jh n):(Lit.int .i64 n).wf=true:=WalkArith.wf_i64 h
theorem jh.oo{n:Int}(h:(Lit.int .i64 n).wf=true):jh n:=wf_i64 h
theorem aJ.iff{f:ag}:aM w F f.toD cs↔ ∃x:aA,cs=x.cells f/\aJ w F f x:=by
 obtain⟨kind,name,n,terms,binds,l⟩:=f;rw[ag.toD,aM,ag.kK];simp only[au];constructor
 ·rintro⟨_,_,rfl,h0,_,_,rfl,h1,_,_,rfl,h2,_,_,rfl,h3,_,_,rfl,h4,_,_,rfl,h5,rfl⟩;rw[aM] at h0;rw[aM] at h1;rw[aM] at h2;obtain⟨rfl,h0⟩:=h0;obtain⟨rfl,h1⟩:=h1;obtain⟨rfl,h2⟩:=h2;obtain⟨t,rfl,k3⟩:=aM.bB.1 h3;obtain⟨b,rfl,k4⟩:=aM.bB.1 h4;obtain⟨l',rfl,k5⟩:=aM.bB.1 h5;exact⟨⟨t,b,l'⟩,by simp[aA.cells,ag.kind,ag.name,ag.n,ag.terms,ag.binds,ag.l],jh.oo h0,by rwa [aS] at h1,jh.oo h2,k3,k4,k5⟩
 ·rintro⟨⟨t,b,l'⟩,rfl,h0,h1,h2,h3,h4,h5⟩;refine⟨[_],_,rfl,by rw[aM];exact⟨rfl,h0.wf⟩,[_],_,rfl,by rw[aM];exact⟨rfl,by rw[aS];exact h1⟩,[_],_,rfl,by rw[aM];exact⟨rfl,h2.wf⟩,[_],_,rfl,aM.bB.2 ⟨t,by simp[ag.terms],h3⟩,[_],_,rfl,aM.bB.2 ⟨b,by simp[ag.binds],h4⟩,[_],[],rfl,aM.bB.2 ⟨l',by simp[ag.l],h5⟩,rfl⟩
theorem aJ.agree{F:Nat->Prop}{w w':World}{f:ag}{x:aA}(h:aJ w F f x)(ha:Agree F w w'):aJ w' F f x:=⟨h.kind,h.name,h.n,h.terms.agree ha,h.binds.agree ha,h.l.agree ha⟩
theorem aJ.mono{F G:Nat->Prop}{w:World}{f:ag}{x:aA}(h:aJ w F f x)(lh:∀k,F k->G k):aJ w G f x:=⟨h.kind,h.name,h.n,h.terms.mono lh,h.binds.mono lh,h.l.mono lh⟩
theorem aJ.later{f:ag}{x:aA}(h:aJ w (·<B) f x)(hb:Below B w w')(hC:B<=C):aJ w' (·<C) f x:=(h.agree (af hb)).mono (fun _ hk=>Nat.lt_of_lt_of_le hk hC)
theorem ak.Cm{l:List ag}{x:aB}(h:ak w F (l.map ag.toD) x)(i:Nat)(hi:i<l.length):
  ∃y:aA,aJ w F l[i] y/\av w x.b (x.o+i*6) (y.cells l[i]):=by
 obtain⟨cs,h1,h2⟩:=h.row.get (sz:=6) (fun d hd=>by obtain⟨t,_,rfl⟩:=List.mem_map.1 hd;exact t.width) i (by simpa using hi);rw[List.getElem_map] at h1;obtain⟨y,rfl,h3⟩:=aJ.iff.1 h1;exact⟨y,h3,h2⟩
theorem av.six{c4 c5:Value}(h:av w b o [c0,c1,c2,c3,c4,c5]):w.cell? ⟨b,o,none⟩=some c0/\w.cell? ⟨b,o+1,none⟩=some c1/\w.cell? ⟨b,o+2,none⟩=some c2/\w.cell? ⟨b,o+3,none⟩=some c3/\w.cell? ⟨b,o+4,none⟩=some c4/\w.cell? ⟨b,o+5,none⟩=some c5:=
 ⟨by simpa using h 0 (by simp),by simpa using h 1 (by simp),by simpa using h 2 (by simp),by simpa using h 3 (by simp),by simpa using h 4 (by simp),by simpa using h 5 (by simp)⟩
structure bH where
 slots:aB
 ah:aB
 people:aB
 groups:aB
 lessons:aB
abbrev bH.cells(x:bH)(s:ax):List Value:=[x.slots.val s.slots.length,x.ah.val s.ah.length,x.people.val s.people.length,x.groups.val s.groups.length,x.lessons.val s.lessons.length]
structure dh (w:World) (F:Nat->Prop) (s:ax) (x:bH):Prop where
 slots:ak w F (s.slots.map l6.toD) x.slots
 ah:ak w F (s.ah.map nE.toD) x.ah
 people:ak w F (s.people.map pF.toD) x.people
 groups:ak w F (s.groups.map oI.toD) x.groups
 lessons:ak w F (s.lessons.map nH.toD) x.lessons
theorem dh.iff{s:ax}:aM w F s.toD cs↔ ∃x:bH,cs=x.cells s/\dh w F s x:=by
 rw[ax.toD,aM];simp only[au];constructor
 ·rintro⟨_,_,rfl,h0,_,_,rfl,h1,_,_,rfl,h2,_,_,rfl,h3,_,_,rfl,h4,rfl⟩;obtain⟨a,rfl,k0⟩:=aM.bB.1 h0;obtain⟨b,rfl,k1⟩:=aM.bB.1 h1;obtain⟨c,rfl,k2⟩:=aM.bB.1 h2;obtain⟨d,rfl,k3⟩:=aM.bB.1 h3;obtain⟨e,rfl,k4⟩:=aM.bB.1 h4;exact⟨⟨a,b,c,d,e⟩,by simp[bH.cells],k0,k1,k2,k3,k4⟩
 ·rintro⟨⟨a,b,c,d,e⟩,rfl,h0,h1,h2,h3,h4⟩;refine⟨[_],_,rfl,aM.bB.2 ⟨a,by simp,h0⟩,[_],_,rfl,aM.bB.2 ⟨b,by simp,h1⟩,[_],_,rfl,aM.bB.2 ⟨c,by simp,h2⟩,[_],_,rfl,aM.bB.2 ⟨d,by simp,h3⟩,[_],[],rfl,aM.bB.2 ⟨e,by simp,h4⟩,rfl⟩
theorem dh.agree{F:Nat->Prop}{w w':World}{s:ax}{x:bH}(h:dh w F s x)(ha:Agree F w w'):dh w' F s x:=⟨h.slots.agree ha,h.ah.agree ha,h.people.agree ha,h.groups.agree ha,h.lessons.agree ha⟩
theorem dh.mono{F G:Nat->Prop}{w:World}{s:ax}{x:bH}(h:dh w F s x)(lh:∀k,F k->G k):dh w G s x:=⟨h.slots.mono lh,h.ah.mono lh,h.people.mono lh,h.groups.mono lh,h.lessons.mono lh⟩
theorem dh.later{s:ax}{x:bH}(h:dh w (·<B) s x)(hb:Below B w w')(hC:B<=C):dh w' (·<C) s x:=(h.agree (af hb)).mono (fun _ hk=>Nat.lt_of_lt_of_le hk hC)
theorem av.two(h:av w b o [c0,c1]):w.cell? ⟨b,o,none⟩=some c0/\w.cell? ⟨b,o+1,none⟩=some c1:=
 ⟨by simpa using h 0 (by simp),by simpa using h 1 (by simp)⟩
theorem av.three(h:av w b o [c0,c1,c2]):w.cell? ⟨b,o,none⟩=some c0/\w.cell? ⟨b,o+1,none⟩=some c1/\w.cell? ⟨b,o+2,none⟩=some c2:=
 ⟨by simpa using h 0 (by simp),by simpa using h 1 (by simp),by simpa using h 2 (by simp)⟩
theorem av.four(h:av w b o [c0,c1,c2,c3]):w.cell? ⟨b,o,none⟩=some c0/\w.cell? ⟨b,o+1,none⟩=some c1/\w.cell? ⟨b,o+2,none⟩=some c2/\w.cell? ⟨b,o+3,none⟩=some c3:=
 ⟨by simpa using h 0 (by simp),by simpa using h 1 (by simp),by simpa using h 2 (by simp),by simpa using h 3 (by simp)⟩
theorem ak.Pk{l:List nE}{x:aB}(h:ak w F (l.map nE.toD) x)(i:Nat)(hi:i<l.length):
  ∃y:aB,ak w F (aG l[i].shut) y/\jh l[i].house/\jh l[i].seats/\l[i].name.length<=maxLen/\av w x.b (x.o+i*4) [.string ⟨l[i].name.toArray⟩,.int .i64 l[i].house,.int .i64 l[i].seats,y.val l[i].shut.length]:=by
 obtain⟨cs,h1,h2⟩:=h.row.get (sz:=4) (fun d hd=>by obtain⟨t,_,rfl⟩:=List.mem_map.1 hd;rfl) i (by simpa using hi);rw[List.getElem_map,nE.toD,aM] at h1;simp only[au] at h1;obtain⟨_,_,rfl,g0,_,_,rfl,g1,_,_,rfl,g2,_,_,rfl,g3,rfl⟩:=h1;rw[aM] at g0;rw[aM] at g1;rw[aM] at g2;obtain⟨rfl,g0⟩:=g0;obtain⟨rfl,g1⟩:=g1;obtain⟨rfl,g2⟩:=g2;obtain⟨y,rfl,q3⟩:=aM.bB.1 g3;exact⟨y,q3,jh.oo g1,jh.oo g2,by rwa [aS] at g0,by simpa using h2⟩
theorem ak.Pj{l:List pF}{x:aB}(h:ak w F (l.map pF.toD) x)(i:Nat)(hi:i<l.length):
  ∃y:aB,ak w F (aG l[i].away) y/\l[i].name.length<=maxLen/\av w x.b (x.o+i*2) [.string ⟨l[i].name.toArray⟩,y.val l[i].away.length]:=by
 obtain⟨cs,h1,h2⟩:=h.row.get (sz:=2) (fun d hd=>by obtain⟨t,_,rfl⟩:=List.mem_map.1 hd;rfl) i (by simpa using hi);rw[List.getElem_map,pF.toD,aM] at h1;simp only[au] at h1;obtain⟨_,_,rfl,g0,_,_,rfl,g3,rfl⟩:=h1;rw[aM] at g0;obtain⟨rfl,g0⟩:=g0;obtain⟨y,rfl,q3⟩:=aM.bB.1 g3;exact⟨y,q3,by rwa [aS] at g0,by simpa using h2⟩
theorem ak.Pf{l:List nH}{x:aB}(h:ak w F (l.map nH.toD) x)(i:Nat)(hi:i<l.length):
  ∃y z:aB,ak w F (aG l[i].who) y/\ak w F (aG l[i].groups) z/\l[i].name.length<=maxLen/\av w x.b (x.o+i*3) [.string ⟨l[i].name.toArray⟩,y.val l[i].who.length,z.val l[i].groups.length]:=by
 obtain⟨cs,h1,h2⟩:=h.row.get (sz:=3) (fun d hd=>by obtain⟨t,_,rfl⟩:=List.mem_map.1 hd;rfl) i (by simpa using hi);rw[List.getElem_map,nH.toD,aM] at h1;simp only[au] at h1;obtain⟨_,_,rfl,g0,_,_,rfl,g3,_,_,rfl,g4,rfl⟩:=h1;rw[aM] at g0;obtain⟨rfl,g0⟩:=g0;obtain⟨y,rfl,q3⟩:=aM.bB.1 g3;obtain⟨z,rfl,q4⟩:=aM.bB.1 g4;exact⟨y,z,q3,q4,by rwa [aS] at g0,by simpa using h2⟩
structure kX where
 each:aB
 body:aA
abbrev kX.cells(x:kX)(r:aV):List Value:=[.string ⟨r.name.toArray⟩,.bool r.hard,.int .i64 r.weight,x.each.val r.each.length,.int .i64 r.body.kind,.string ⟨r.body.name.toArray⟩,.int .i64 r.body.n,x.body.t.val r.body.terms.length,x.body.b.val r.body.binds.length,x.body.l.val r.body.l.length]
structure jf (w:World) (F:Nat->Prop) (r:aV) (x:kX):Prop where
 name:r.name.length<=maxLen
 weight:jh r.weight
 each:ak w F (r.each.map aH.toD) x.each
 body:aJ w F r.body x.body
theorem jf.iff{w:World}{F:Nat->Prop}{r:aV}{cs:List Value}:aM w F r.toD cs↔ ∃x:kX,cs=x.cells r/\jf w F r x:=by
 rw[aV.toD,aM];simp only[au];constructor
 ·rintro⟨_,_,rfl,h0,_,_,rfl,h1,_,_,rfl,h2,_,_,rfl,h3,_,_,rfl,h4,rfl⟩;rw[aM] at h0;rw[aM] at h1;rw[aM] at h2;obtain⟨rfl,h0⟩:=h0;subst h1;obtain⟨rfl,h2⟩:=h2;obtain⟨e,rfl,k3⟩:=aM.bB.1 h3;obtain⟨b,rfl,k4⟩:=aJ.iff.1 h4;exact⟨⟨e,b⟩,by simp[kX.cells,aA.cells],by rwa [aS] at h0,jh.oo h2,k3,k4⟩
 ·rintro⟨⟨e,b⟩,rfl,h0,h2,h3,h4⟩;refine⟨[_],_,rfl,by rw[aM];exact⟨rfl,by rw[aS];exact h0⟩,[_],_,rfl,by rw[aM],[_],_,rfl,by rw[aM];exact⟨rfl,h2.wf⟩,[_],_,rfl,aM.bB.2 ⟨e,by simp,h3⟩,_,[],by simp only[List.append_nil],aJ.iff.2 ⟨b,rfl,h4⟩,rfl⟩
theorem jf.agree{F:Nat->Prop}{w w':World}{r:aV}{x:kX}(h:jf w F r x)(ha:Agree F w w'):jf w' F r x:=⟨h.name,h.weight,h.each.agree ha,h.body.agree ha⟩
theorem jf.mono{F G:Nat->Prop}{w:World}{r:aV}{x:kX}(h:jf w F r x)(lh:∀k,F k->G k):jf w G r x:=⟨h.name,h.weight,h.each.mono lh,h.body.mono lh⟩
theorem ak.Bp{l:List aV}{x:aB}(h:ak w F (l.map aV.toD) x)(i:Nat)(hi:i<l.length):
  ∃y:kX,jf w F l[i] y/\av w x.b (x.o+i*10) (y.cells l[i]):=by
 obtain⟨cs,h1,h2⟩:=h.row.get (sz:=10) (fun d hd=>by obtain⟨t,_,rfl⟩:=List.mem_map.1 hd;exact t.width) i (by simpa using hi);rw[List.getElem_map] at h1;obtain⟨y,rfl,h3⟩:=jf.iff.1 h1;exact⟨y,h3,h2⟩
theorem ak.ints{l:List Int}{x:aB}(h:ak w F (aG l) x):fF F x.a x.b x.o l.length/\l.length<=x.cap/\x.cap<=maxLen/\ve l/\∀(i:Nat) (h:i<l.length),w.cell? ⟨x.b,x.o+i,none⟩=some (.int .i64 l[i]):=by
 have h0:aM w F (.sl (aG l)) [x.val l.length]:=aM.bB.2 ⟨x,by simp,h⟩;have hr:=bq.flat Int.bZ (show bq w F (l.map (D.int .i64)) x.b x.o from h.row);refine⟨by simpa using h.at_,by simpa using h.le,h.max,fun n hn=>wf_i64 (hr.2 n hn),fun i hi=>?_⟩;have:=hr.1.one i hi (c0:=.int .i64 l[i]) rfl;simpa using this
theorem ak.flat{α:Type}{f:α->D}{sz:Nat}(hf:jd f sz){w:World}{F:Nat->Prop}{l:List α}{x:aB}(h:ak w F (l.map f) x):fF F x.a x.b x.o l.length/\l.length<=x.cap/\x.cap<=maxLen/\eX w f sz l x.b x.o/\∀y∈l,(f y).fine:=
 ⟨by simpa using h.at_,by simpa using h.le,h.max,bq.flat hf h.row⟩
inductive Tr where
 |mk (kind v k:Int) (l:List Tr)
def Tr.kind:Tr->Int| .mk a _ _ _=>a
def Tr.l:Tr->List Tr| .mk _ _ _ a=>a
mutual
def Tr.toD:Tr->D
 | .mk kind v k l=>.st [.int .i64 kind,.int .i64 v,.int .i64 k,.sl (Tr.nA l)]
def Tr.nA:List Tr->List D
 |[]=>[]
 |t::r=>t.toD::Tr.nA r
end
theorem Tr.kK:∀l:List Tr,Tr.nA l=l.map Tr.toD
 |[]=>rfl
 |t::r=>by rw[Tr.nA,Tr.kK r];rfl
theorem Tr.width(t:Tr):t.toD.width=4:=by cases t;simp[Tr.toD,D.width,bz]
mutual
def Tr.size:Tr->Nat
 | .mk _ _ _ l=>1+sizes l
def sizes:List Tr->Nat
 |[]=>0
 |t::r=>t.size+sizes r
end
theorem size_pos:∀t:Tr,0<t.size| .mk _ _ _ _=>by simp only[Tr.size];omega
mutual
theorem Tr.lS:∀t:Tr,t.size<=t.toD.bulk
 | .mk _ _ _ l=>by rw[Tr.size,Tr.toD,D.bulk];simp only[bI,D.bulk];have:=Tr.iQ l;omega
theorem Tr.iQ:∀l:List Tr,sizes l<=bI (Tr.nA l)
 |[]=>by simp[sizes]
 |t::r=>by rw[sizes,Tr.nA,bI];have:=Tr.lS t;have:=Tr.iQ r;omega
end
def lv(w:World)(F:Nat->Prop)(t:Tr)(x:Value):Prop:=∃c0 c1 c2 c3,x=.agg #[c0,c1,c2,c3]/\aM w F t.toD [c0,c1,c2,c3]
theorem lv.agree{F:Nat->Prop}{w w':World}{t:Tr}{x:Value}(h:lv w F t x)(ha:Agree F w w'):lv w' F t x:=by
 obtain⟨c0,c1,c2,c3,rfl,h⟩:=h;exact⟨c0,c1,c2,c3,rfl,aM.agree ha _ _ h⟩
theorem lv.mono{F G:Nat->Prop}{w:World}{t:Tr}{x:Value}(h:lv w F t x)(lh:∀k,F k->G k):lv w G t x:=by
 obtain⟨c0,c1,c2,c3,rfl,h⟩:=h;exact⟨c0,c1,c2,c3,rfl,aM.mono lh _ _ h⟩
theorem lv.later{t:Tr}{x:Value}(h:lv w (·<B) t x)(hb:Below B w w')(hB:B<=w'.heap.size):lv w' (·<w'.heap.size) t x:=
 (h.agree (af hb)).mono (fun _ hk=>Nat.lt_of_lt_of_le hk hB)
def AZ(w:World)(F:Nat->Prop)(l:List Tr)(b o:Nat):Prop:=
 ∀(i:Nat) (h:i<l.length),∃k0 k1 k2 a n cap,w.cell? ⟨b,o+i*4,none⟩=some (.int .i64 k0)/\w.cell? ⟨b,o+i*4+1,none⟩=some (.int .i64 k1)/\w.cell? ⟨b,o+i*4+2,none⟩=some (.int .i64 k2)/\w.cell? ⟨b,o+i*4+3,none⟩=some (.slice a n cap)/\
    lv w F l[i] (.agg #[.int .i64 k0,.int .i64 k1,.int .i64 k2,.slice a n cap])
theorem AZ.at{l:List Tr}(h:AZ w (·<B) l b o)(hb:Below B w w')(hbl:b<B)(i:Nat)(hi:i<l.length):
  ∃k0 k1 k2 a n cap,w'.cell? ⟨b,o+i*4,none⟩=some (.int .i64 k0)/\w'.cell? ⟨b,o+i*4+1,none⟩=some (.int .i64 k1)/\w'.cell? ⟨b,o+i*4+2,none⟩=some (.int .i64 k2)/\w'.cell? ⟨b,o+i*4+3,none⟩=some (.slice a n cap)/\
    lv w (·<B) l[i] (.agg #[.int .i64 k0,.int .i64 k1,.int .i64 k2,.slice a n cap]):=by
 obtain⟨k0,k1,k2,a',n',cap',g0,g1,g2,g3,g4⟩:=h i hi;exact⟨k0,k1,k2,a',n',cap',(hb.cell (p:=⟨b,o+i*4,none⟩) hbl).trans g0,(hb.cell (p:=⟨b,o+i*4+1,none⟩) hbl).trans g1,(hb.cell (p:=⟨b,o+i*4+2,none⟩) hbl).trans g2,(hb.cell (p:=⟨b,o+i*4+3,none⟩) hbl).trans g3,g4⟩
theorem Tr.Jq{tT tS:TypeId}{fs:Array Field}(hT:P.underlying tT=some (.struct fs))(hf:fs.toList.map (·.type)=[ti,ti,ti,tS])(hS:P.underlying tS=some (.slice tT))(hi:P.underlying ti=some (.int .i64)):
  ∀(n:Nat) (x:D),Fits P n tT x->∃t:Tr,x=t.toD:=by
 intro n
 induction n using Nat.strongRecOn with
 |_ n ih=>
  intro x h;obtain⟨m,xs,rfl,rfl,hx⟩:=h.struct hT hf
  match xs,hx with
  |[x0,x1,x2,x3],⟨h0,h1,h2,h3,_⟩=>
   obtain⟨k0,rfl,_⟩:=h0.int hi;obtain⟨k1,rfl,_⟩:=h1.int hi;obtain⟨k2,rfl,_⟩:=h2.int hi;obtain⟨l,rfl⟩:=h3.dR hS (f:=Tr.toD) (fun j y hj hy=>ih j (by omega) y hy);exact⟨.mk k0 k1 k2 l,by rw[Tr.toD,Tr.kK]⟩
end Go.aa
