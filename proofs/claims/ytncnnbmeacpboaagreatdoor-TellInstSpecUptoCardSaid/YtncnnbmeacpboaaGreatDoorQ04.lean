/- Parts of the proof. -/
import Derived.WalkSpells
import Derived.WalkLawsBesides
import Derived.Lib.Hide
import Derived.ProofKit
import Derived.Test.YtncnnbmeacpboaaGreatDoorQ02
set_option linter.unusedVariables false
set_option linter.unusedSimpArgs false
namespace Go.aa
open Go.RowKit
variable {p:Prop} {i B b sz A r1 r2 o C:Nat} {F G S:Nat->Prop} {w w' w1:World} {t e tl ti:TypeId} {fz:Nat×Nat} {a:Addr} {v v1 v2 c0 c1 c2 c3:Value} {cs:List Value} {α:Type} {P:Program} {r:Option Nat} {c:List Int} {least:Int}
theorem Lh(h:p):Hid p:=Lib.hid h
theorem aI{q:Prop}(h:p)(k:q):p∧q:=⟨h,k⟩
theorem gS{α:Type _}{xs:Array α}{a:α}(h:xs[i]?=some a):∃h:i<xs.size,xs[i]=a:=Array.getElem?_eq_some_iff.1 h
inductive D where
 |int (k:IntKind) (n:Int)
 |bool (b:Bool)
 |str (s:ByteArray)
 |sl (xs:List D)
 |st (xs:List D)
def Agree(F:Nat->Prop)(w w':World):Prop:=∀k,F k->w'.heap[k]?=w.heap[k]?
theorem Agree.refl(F:Nat->Prop)(w:World):Agree F w w:=fun _ _=>rfl
theorem Agree.trans{F:Nat->Prop}{a b c:World}(h:Agree F a b)(k:Agree F b c):Agree F a c:=fun i hi=>(k i hi).trans (h i hi)
theorem Agree.mono(h:Agree G w w')(nu:∀k,F k->G k):Agree F w w':=fun k hk=>h k (nu k hk)
theorem ag(h:Below B w w'):Agree (·<B) w w':=fun k hk=>h.block k hk
theorem cB(h:Agree F w w'){a:Addr}(ha:F a.block):w'.cell? a=w.cell? a:=World.cell?_of_block (w:=w) (h a.block ha)
def gT(F:Nat->Prop)(a:Option Addr)(b o n:Nat):Prop:=0<n->a=some ⟨b,o,none⟩/\F b
theorem gT.mono(nu:∀k,F k->G k){a:Option Addr}{b o n:Nat}(h:gT F a b o n):gT G a b o n:=fun hn=>⟨(h hn).1,nu _ (h hn).2⟩
def ay(w:World)(b o:Nat)(cs:List Value):Prop:=∀j (h:j<cs.length),w.cell? ⟨b,o+j,none⟩=some cs[j]
theorem ay.agree(h:Agree F w w'){b o:Nat}{cs:List Value}(hb:F b)(hc:ay w b o cs):ay w' b o cs:=
 fun j hj=>(cB h (a:=⟨b,o+j,none⟩) hb).trans (hc j hj)
mutual
def D.width:D->Nat
 | .st xs=>bO xs
 |_=>1
def bO:List D->Nat
 |[]=>0
 |x::r=>x.width+bO r
end
mutual
def bg(w:World)(F:Nat->Prop):D->List Value->Prop
 | .int k n,cs=>cs=[.int k n]/\(Lit.int k n).wf=true
 | .bool b,cs=>cs=[.bool b]
 | .str s,cs=>cs=[.string s]/\s.size<=maxLen
 | .sl xs,cs=>∃a b o cap,cs=[.slice a xs.length cap]/\gT F a b o xs.length/\xs.length<=cap/\cap<=maxLen/\bU w F xs b o
 | .st xs,cs=>au w F xs cs
def au(w:World)(F:Nat->Prop):List D->List Value->Prop
 |[],cs=>cs=[]
 |x::r,cs=>∃c1 c2,cs=c1++c2/\bg w F x c1/\au w F r c2
def bU(w:World)(F:Nat->Prop):List D->Nat->Nat->Prop
 |[],_,_=>True
 |x::r,b,o=>(∃cs,bg w F x cs/\ay w b o cs)/\bU w F r b (o+x.width)
end
mutual
theorem bg.length{w:World}{F:Nat->Prop}:∀(x:D) (cs:List Value),bg w F x cs->cs.length=x.width
 | .int _ _,_,h=>by rw[bg] at h;simp[h.1,D.width]
 | .bool _,_,h=>by rw[bg] at h;simp[h,D.width]
 | .str _,_,h=>by rw[bg] at h;simp[h.1,D.width]
 | .sl _,_,h=>by rw[bg] at h;obtain⟨_,_,_,_,rfl,_⟩:=h;simp[D.width]
 | .st xs,cs,h=>by rw[bg] at h;rw[D.width];exact au.length xs cs h
theorem au.length{w:World}{F:Nat->Prop}:∀(xs:List D) (cs:List Value),au w F xs cs->cs.length=bO xs
 |[],_,h=>by rw[au] at h;simp[h,bO]
 |x::r,cs,h=>by
  rw[au] at h;obtain⟨c1,c2,rfl,h1,h2⟩:=h;rw[List.length_append,bg.length x c1 h1,au.length r c2 h2,bO]
end
mutual
theorem bg.agree{F:Nat->Prop}{w w':World}(h:Agree F w w'):∀(x:D) (cs:List Value),bg w F x cs->bg w' F x cs
 | .int _ _,_,hx=>by rw[bg] at hx ⊢;exact hx
 | .bool _,_,hx=>by rw[bg] at hx ⊢;exact hx
 | .str _,_,hx=>by rw[bg] at hx ⊢;exact hx
 | .sl xs,_,hx=>by
  rw[bg] at hx ⊢;obtain⟨a,b,o,cap,e,hs,h1,h2,hr⟩:=hx;exact⟨a,b,o,cap,e,hs,h1,h2,bU.agree h xs b o (fun hne=>(hs (by cases xs<;>simp_all)).2) hr⟩
 | .st xs,cs,hx=>by rw[bg] at hx ⊢;exact au.agree h xs cs hx
theorem au.agree{F:Nat->Prop}{w w':World}(h:Agree F w w'):∀(xs:List D) (cs:List Value),au w F xs cs->au w' F xs cs
 |[],_,hx=>by rw[au] at hx ⊢;exact hx
 |x::r,cs,hx=>by
  rw[au] at hx ⊢;obtain⟨c1,c2,e,h1,h2⟩:=hx;exact⟨c1,c2,e,bg.agree h x c1 h1,au.agree h r c2 h2⟩
theorem bU.agree{F:Nat->Prop}{w w':World}(h:Agree F w w'):∀(xs:List D) (b o:Nat),(xs≠[]->F b)->bU w F xs b o->bU w' F xs b o
 |[],_,_,_,_=>by rw[bU];trivial
 |x::r,b,o,hb,hx=>by
  rw[bU] at hx ⊢;obtain⟨⟨cs,h1,h2⟩,hr⟩:=hx;exact⟨⟨cs,bg.agree h x cs h1,h2.agree h (hb (by simp))⟩,bU.agree h r b _ (fun _=>hb (by simp)) hr⟩
end
mutual
theorem bg.mono{F G:Nat->Prop}(h:∀k,F k->G k){w:World}:∀(x:D) (cs:List Value),bg w F x cs->bg w G x cs
 | .int _ _,_,hx=>by rw[bg] at hx ⊢;exact hx
 | .bool _,_,hx=>by rw[bg] at hx ⊢;exact hx
 | .str _,_,hx=>by rw[bg] at hx ⊢;exact hx
 | .sl xs,_,hx=>by
  rw[bg] at hx ⊢;obtain⟨a,b,o,cap,e,hs,h1,h2,hr⟩:=hx;exact⟨a,b,o,cap,e,hs.mono h,h1,h2,bU.mono h xs b o hr⟩
 | .st xs,cs,hx=>by rw[bg] at hx ⊢;exact au.mono h xs cs hx
theorem au.mono{F G:Nat->Prop}(h:∀k,F k->G k){w:World}:∀(xs:List D) (cs:List Value),au w F xs cs->au w G xs cs
 |[],_,hx=>by rw[au] at hx ⊢;exact hx
 |x::r,cs,hx=>by
  rw[au] at hx ⊢;obtain⟨c1,c2,e,h1,h2⟩:=hx;exact⟨c1,c2,e,bg.mono h x c1 h1,au.mono h r c2 h2⟩
theorem bU.mono{F G:Nat->Prop}(h:∀k,F k->G k){w:World}:∀(xs:List D) (b o:Nat),bU w F xs b o->bU w G xs b o
 |[],_,_,_=>by rw[bU];trivial
 |x::r,b,o,hx=>by
  rw[bU] at hx ⊢;obtain⟨⟨cs,h1,h2⟩,hr⟩:=hx;exact⟨⟨cs,bg.mono h x cs h1,h2⟩,bU.mono h r b _ hr⟩
end
theorem bU.get{w:World}{F:Nat->Prop}{sz:Nat}:∀ {xs:List D} {b o:Nat},bU w F xs b o->(∀x∈xs,x.width=sz)->∀(i:Nat) (h:i<xs.length),∃cs,bg w F xs[i] cs/\ay w b (o+i*sz) cs
 |x::r,b,o,h,_,0,_=>by rw[bU] at h;simpa using h.1
 |x::r,b,o,h,hw,i+1,hi=>by
  rw[bU] at h;obtain⟨cs,h1,h2⟩:=bU.get h.2 (fun y hy=>hw y (by simp[hy])) i (by simpa using hi);refine⟨cs,by simpa using h1,?_⟩;rw[hw x (by simp)] at h2
  rwa [show o+(i+1)*sz=o+sz+i*sz from by rw[Nat.add_mul];omega]
theorem bU.mk{w:World}{F:Nat->Prop}:∀ {xs:List D} {b o:Nat} {cs:List Value},au w F xs cs->ay w b o cs->bU w F xs b o
 |[],_,_,_,_,_=>by rw[bU];trivial
 |x::r,b,o,cs,h,hc=>by
  rw[au] at h;obtain⟨c1,c2,rfl,h1,h2⟩:=h;rw[bU];refine⟨⟨c1,h1,fun j hj=>?_⟩,bU.mk h2 (fun j hj=>?_)⟩
  ·have:=hc j (by simp;omega)
   rwa [List.getElem_append_left hj] at this
  ·have:=hc (c1.length+j) (by simp;omega);rw[List.getElem_append_right (by omega)] at this;simpa[bg.length x c1 h1,Nat.add_assoc] using this
theorem au.append{w:World}{F:Nat->Prop}:∀ {xs ys:List D} {cs ds:List Value},au w F xs cs->au w F ys ds->au w F (xs++ys) (cs++ds)
 |[],_,_,_,h,k=>by rw[au] at h;subst h;simpa using k
 |x::r,ys,cs,ds,h,k=>by
  rw[au] at h;obtain⟨c1,c2,rfl,h1,h2⟩:=h;rw[List.cons_append,au];exact⟨c1,c2++ds,by simp,h1,au.append h2 k⟩
mutual
def D.bulk:D->Nat
 | .str s=>s.size+1
 | .sl xs=>dO xs+1
 | .st xs=>dO xs+1
 |_=>1
def dO:List D->Nat
 |[]=>0
 |x::r=>x.bulk+dO r
end
theorem J7(x:D):1<=x.bulk:=by cases x<;>simp[D.bulk]
theorem Fy{x:D}:∀ {l:List D},x∈l->x.bulk<=dO l
 |y::r,h=>by
  rw[dO];cases List.mem_cons.1 h with
  |inl e=>subst e;omega
  |inr e=>have:=Fy e;omega
theorem jU:∀l:List D,l.length<=dO l
 |[]=>by simp[dO]
 |x::r=>by have:=jU r;have:=J7 x;simp[dO];omega
theorem bg.slice{w:World}{F:Nat->Prop}{xs:List D}{b o cap:Nat}{a:Option Addr}(hs:gT F a b o xs.length)(h1:xs.length<=cap)(h2:cap<=maxLen)(h:bU w F xs b o):bg w F (.sl xs) [.slice a xs.length cap]:=by
 rw[bg];exact⟨a,b,o,cap,rfl,hs,h1,h2,h⟩
theorem boxed{o:Obj}(hb:Below B (w.alloc o) w1)(hB:w.heap.size<B):w1.heap[w.heap.size]?=some o:=by
 rw[hb.block _ hB];show(w.heap.push o)[w.heap.size]?=some o;simp
theorem cH{cs:Array Value}(h:w.heap[b]?=some (.cells cs t fz)){v:Value}(hv:cs[i]?=some v):w.cell? ⟨b,i,none⟩=some v:=by
 simp[World.cell?,h,hv]
theorem Below.ahead{o:Obj}(hb:Below B (w.alloc o) w1)(hB:w.heap.size<=B):Below w.heap.size w w1:=((Below.refl _ w).alloc (Nat.le_refl _) o).trans (hb.mono hB)
mutual
def D.of{H:Type}:DataW H->D
 | .lit (.int k n)=>.int k n
 | .lit (.bool b)=>.bool b
 | .lit (.string bs)=>.str ⟨bs.toArray⟩
 | .lit _=>.bool false
 | .nil=>.sl []
 | .slice es _=>.sl (D.iU es)
 | .agg ps=>.st (D.iU ps)
 |_=>.bool false
def D.iU{H:Type}:List (DataW H)->List D
 |[]=>[]
 |d::r=>D.of d::D.iU r
end
theorem D.nS{H:Type}:∀l:List (DataW H),D.iU l=l.map D.of
 |[]=>rfl
 |d::r=>by rw[D.iU,D.nS r];rfl
def CG(P:Program):List Field->Nat->Nat->Bool
 |[],o,n=>o==n
 |f::r,o,n=>f.offset==o&&CG P r (o+P.cellsOf f.type) n
def plainType(P:Program)(T:List TypeId)(t:TypeId):Bool:=
 match P.underlying t with
 |some .bool|some (.int _)|some .string=>P.cellsOf t==1
 |some (.slice e)=>T.contains e&&P.cellsOf t==1&&decide (0<P.cellsOf e)
 |some (.struct fs)=>fs.toList.all (fun f=>T.contains f.type)&&CG P fs.toList 0 (P.cellsOf t)
 |_=>false
def vY(P:Program)(T:List TypeId):Bool:=T.all (plainType P T)
def Fits(P:Program):Nat->TypeId->D->Prop
 |0,_,_=>False
 |n+1,t,x=>
  match P.underlying t with
  |some .bool=>∃b,x=.bool b
  |some (.int k)=>∃m,x=.int k m/\(Lit.int k m).wf=true
  |some .string=>∃s,x=.str s/\s.size<=maxLen
  |some (.slice e)=>∃xs,x=.sl xs/\∀y∈xs,Fits P n e y
  |some (.struct fs)=>∃xs,x=.st xs/\xs.length=fs.toList.length/\∀(i:Nat) (f:Field) (y:D),fs.toList[i]?=some f->xs[i]?=some y->Fits P n f.type y
  |_=>False
theorem mapM_some{α β:Type}{f:α->Option β}:∀ {l:List α} {r:List β},l.mapM f=some r->r.length=l.length/\∀(i:Nat) (a:α) (b:β),l[i]?=some a->r[i]?=some b->f a=some b
 |[],r,h=>by simp at h;subst h;simp
 |x::l,r,h=>by
  simp only[List.mapM_cons,Option.bind_eq_bind,Option.bind_eq_some_iff] at h;obtain⟨y,hy,ys,hys,hr⟩:=h;simp at hr;subst hr;obtain⟨h1,h2⟩:=mapM_some hys;refine⟨by simp[h1],fun i a b ha hb=>?_⟩;cases i with
  |zero=>simp at ha hb;subst ha hb;exact hy
  |succ i=>exact h2 i a b (by simpa using ha) (by simpa using hb)
theorem zO(h:w.cell? a=some v):a.spot=none:=by
 unfold World.cell? at h;split at h
 ·split at h
  ·cases h
  ·cases hs:a.spot<;>simp_all
 ·cases h
theorem xR{n:Nat}(h:w.cells? 0 a n=some cs):cs.length=n/\(0<n->a.block<w.heap.size)/\∀j (hj:j<cs.length),w.cell? (a.add j)=some cs[j]:=by
 unfold World.cells? at h;rw[if_pos (Nat.zero_le _)] at h;obtain⟨h1,h2⟩:=mapM_some h;have hc:∀j (hj:j<cs.length),w.cell? (a.add j)=some cs[j]:=fun j hj=>h2 j j cs[j] (by rw[h1,List.length_range] at hj;simp[hj]) (by simp[hj]);refine⟨by simpa using h1,fun hn=>?_,hc⟩;have h0:=hc 0 (by simp at h1;omega);unfold Addr.add at h0;rw[if_pos rfl] at h0;unfold World.cell? at h0;split at h0
 ·rename_i hb;exact(gS hb).1
 ·cases h0
theorem add_add(a:Addr)(i j:Nat)(hs:a.spot=none):(a.add i).add j=⟨a.block,a.off+i+j,none⟩:=by
 cases a with|mk b o s=>?_
 simp at hs;subst hs;unfold Addr.add;by_cases hi:i=0<;>by_cases hj:j=0<;>simp[hi,hj]
theorem row_of{w:World}{F:Nat->Prop}{sz:Nat}{b:Nat}:∀(xs:List D) (o:Nat),(∀(i:Nat) (x:D),xs[i]?=some x->x.width=sz/\∃cs,bg w F x cs/\ay w b (o+i*sz) cs)->bU w F xs b o
 |[],_,_=>by rw[bU];trivial
 |x::r,o,h=>by
  rw[bU];obtain⟨h0,h1⟩:=h 0 x (by simp);refine⟨by simpa using h1,row_of (sz:=sz) r _ (fun i y hy=>?_)⟩;obtain⟨k0,cs,k1,k2⟩:=h (i+1) y (by simpa using hy);refine⟨k0,cs,k1,?_⟩;rw[h0]
  rwa [show o+(i+1)*sz=o+sz+i*sz from by rw[Nat.add_mul];omega] at k2
theorem CJ{P:Program}{w:World}{F:Nat->Prop}:∀(fs:List Field) (xs:List D) (o n:Nat) (cs:List Value),CG P fs o n=true->cs.length=n->o<=n->xs.length=fs.length->
  (∀(i:Nat) (f:Field) (x:D),fs[i]?=some f->xs[i]?=some x->bg w F x ((cs.drop f.offset).take (P.cellsOf f.type))/\((cs.drop f.offset).take (P.cellsOf f.type)).length=P.cellsOf f.type)->au w F xs (cs.drop o)
 |[],[],o,n,cs,ht,hl,_,_,_=>by
  simp[CG] at ht;subst ht;rw[au];simp;omega
 |[],x::r,_,_,_,_,_,_,h,_=>by simp at h
 |f::fs,[],_,_,_,_,_,_,h,_=>by simp at h
 |f::fs,x::xs,o,n,cs,ht,hl,ho,hx,h=>by
  simp[CG] at ht;obtain⟨ho',ht⟩:=ht;obtain⟨h0,h1⟩:=h 0 f x (by simp) (by simp);rw[ho'] at h0 h1;rw[au];have hle:o+P.cellsOf f.type<=n:=by
   rw[List.length_take,List.length_drop] at h1;omega
  refine⟨_,_,(List.take_append_drop (P.cellsOf f.type) (cs.drop o)).symm,h0,?_⟩;rw[List.drop_drop];exact CJ fs xs _ n cs ht hl hle (by simpa using hx) (fun i g y hg hy=>h (i+1) g y (by simpa using hg) (by simpa using hy))
theorem AU(s:ByteArray):(⟨s.data.toList.toArray⟩:ByteArray)=s:=by cases s;simp
theorem ru{H:Type}{enc:TypeId×Value->H}{P:Program}{w:World}{spare:Nat->Bool}{held:Bool}{T:List TypeId}(hT:vY P T=true):
  ∀(fuel:Nat) (t:TypeId) (cs:List Value) (d:DataW H) (p:List MemPlace),t∈T->DataW.trod enc P w 0 spare held fuel t cs=some (d,p)->
   bg w (·<w.heap.size) (D.of d) cs/\Fits P fuel t (D.of d)/\cs.length=P.cellsOf t
 |0,_,_,_,_,_,h=>by simp[DataW.trod] at h
 |fuel+1,t,cs,d,p,ht,h=>by
  have hp:plainType P T t=true:=List.all_eq_true.1 hT t ht;unfold plainType at hp;rw[DataW.trod.eq_def] at h;rw[Fits];simp only at h;cases hu:P.underlying t with
  |none=>rw[hu] at hp;cases hp
  |some u=>
   rw[hu] at hp h;cases u with
   |bool=>
    simp at hp;split at h<;>try(simp_all;done)
    simp at h;obtain⟨rfl,rfl⟩:=h;exact⟨by simp[D.of,bg],⟨_,by rw[D.of]⟩,by simp[hp]⟩
   |int k=>
    simp at hp;split at h<;>try(simp_all;done)
    rename_i k' k'' n hk;split at h<;>try(simp_all;done)
    rename_i hw;simp at h;obtain⟨rfl,rfl⟩:=h;simp at hk;subst hk;obtain⟨rfl,hw⟩:=hw;exact⟨by rw[D.of,bg];exact⟨rfl,hw⟩,⟨_,by rw[D.of],hw⟩,by simp[hp]⟩
   |string=>
    simp at hp;split at h<;>try(simp_all;done)
    split at h<;>try(simp_all;done)
    rename_i hw;simp at h;obtain⟨rfl,rfl⟩:=h;exact⟨by rw[D.of,bg,AU];exact⟨rfl,hw⟩,⟨_,by rw[D.of,AU],hw⟩,by simp[hp]⟩
   |slice e=>
    simp at hp;split at h<;>try(simp_all;done)
    ·simp at h;obtain⟨rfl,rfl⟩:=h;refine⟨?_,⟨[],by rw[D.of],by simp⟩,by simp[hp]⟩;rw[D.of];exact bg.slice (xs:=[]) (b:=0) (o:=0) (a:=none) (fun h=>by simp at h) (Nat.le_refl _) (Nat.zero_le _) (by rw[bU];trivial)
    ·rename_i e' a len cap hk;simp at hk;subst hk;split at h<;>try(simp_all;done)
     rename_i hc;simp only[Option.bind_eq_some_iff,Option.map_eq_some_iff,Prod.mk.injEq] at h;obtain⟨elems,he,rest,_,rfl,rfl⟩:=h;obtain⟨hl,hi⟩:=mapM_some he;have key:∀(i:Nat) (y:DataW H×List MemPlace),elems[i]?=some y->∃cs,w.cells? 0 (a.add (i*P.cellsOf e)) (P.cellsOf e)=some cs/\bg w (·<w.heap.size) (D.of y.1) cs/\Fits P fuel e (D.of y.1)/\cs.length=P.cellsOf e:=by
      intro i y hy;have hil:i<len:=by have:=(List.getElem?_eq_some_iff.1 hy).1;simp at hl;omega
      have:=hi i i y (by simp[hil]) hy;simp only[Option.bind_eq_some_iff] at this;obtain⟨cs,h1,h2⟩:=this;obtain⟨g1,g2,g3⟩:=ru hT fuel e cs y.1 y.2 (by simpa using hp.1.1) (by rw[h2]);exact⟨cs,h1,g1,g2,g3⟩
     have hlen:(D.iU (elems.map (·.1))).length=len:=by rw[D.nS];simp at hl;simp[hl]
     have hget:∀(i:Nat) (x:D),(D.iU (elems.map (·.1)))[i]?=some x->∃y,elems[i]?=some y/\x=D.of y.1:=by
      intro i x hx;rw[D.nS] at hx;simp only[List.getElem?_map,Option.map_eq_some_iff] at hx;obtain⟨z,⟨y,hy,rfl⟩,rfl⟩:=hx;exact⟨y,hy,rfl⟩
     refine⟨?_,⟨D.iU (elems.map (·.1)),by rw[D.of],?_⟩,by simp[hp.1.2]⟩
     ·rw[D.of];have hw1:∀(i:Nat) (x:D),(D.iU (elems.map (·.1)))[i]?=some x->x.width=P.cellsOf e:=by
       intro i x hx;obtain⟨y,hy,rfl⟩:=hget i x hx;obtain⟨cs,_,g1,_,g3⟩:=key i y hy;rw[<-bg.length _ _ g1,g3]
      have hsp:0<len->a.spot=none/\a.block<w.heap.size:=by
       intro h0;obtain⟨y,hy⟩:∃y,elems[0]?=some y:=by
        simp at hl;exact⟨elems[0],by simp⟩
       obtain⟨cs,g0,g1,_,g3⟩:=key 0 y hy;obtain⟨c1,c2,c3⟩:=xR g0;have c4:=c3 0 (by omega);simp[Addr.add] at c4 c2;exact⟨zO c4,c2 hp.2⟩
      rw[show len=(D.iU (elems.map (·.1))).length from hlen.symm];refine bg.slice (b:=a.block) (o:=a.off) (fun h0=>?_) (by rw[hlen];exact hc.2.1) hc.2.2 (row_of (sz:=P.cellsOf e) _ _ (fun i x hx=>⟨hw1 i x hx,?_⟩))
      ·obtain⟨s1,s2⟩:=hsp (by rw[hlen] at h0;exact h0);refine⟨?_,s2⟩;cases a;simp at s1;subst s1;rfl
      ·obtain⟨y,hy,rfl⟩:=hget i x hx;obtain⟨cs,g0,g1,_,g3⟩:=key i y hy;obtain⟨c1,c2,c3⟩:=xR g0;have hil:i<len:=by have:=(List.getElem?_eq_some_iff.1 hy).1;simp at hl;omega
       refine⟨cs,g1,fun j hj=>?_⟩;have:=c3 j hj
       rwa [add_add _ _ _ (hsp (by omega)).1] at this
     ·intro x hx;obtain⟨i,hi2⟩:=List.mem_iff_getElem?.1 hx;obtain⟨y,hy,rfl⟩:=hget i x hi2;obtain⟨cs,_,_,g2,_⟩:=key i y hy;exact g2
   |struct fs=>
    simp at hp;change (if cs.length=P.cellsOf t then(fs.toList.mapM fun f=>DataW.trod enc P w 0 spare held fuel f.type ((cs.drop f.offset).take (P.cellsOf f.type))).map fun xs=>(DataW.agg (xs.map (·.1)),xs.flatMap (·.2)) else none)=some (d,p) at h;by_cases hc:cs.length=P.cellsOf t;rotate_left
    ·rw[if_neg hc] at h;cases h
    rw[if_pos hc] at h;simp only[Option.map_eq_some_iff,Prod.mk.injEq] at h;obtain⟨ys,he,rfl,rfl⟩:=h;obtain⟨hl,hi⟩:=mapM_some he;have hget:∀(i:Nat) (x:D),(D.iU (ys.map (·.1)))[i]?=some x->∃y,ys[i]?=some y/\x=D.of y.1:=by
     intro i x hx;rw[D.nS] at hx;simp only[List.getElem?_map,Option.map_eq_some_iff] at hx;obtain⟨z,⟨y,hy,rfl⟩,rfl⟩:=hx;exact⟨y,hy,rfl⟩
    have hlen:(D.iU (ys.map (·.1))).length=fs.toList.length:=by rw[D.nS];simp[hl]
    have key:∀(i:Nat) (f:Field) (x:D),fs.toList[i]?=some f->(D.iU (ys.map (·.1)))[i]?=some x->
      bg w (·<w.heap.size) x ((cs.drop f.offset).take (P.cellsOf f.type))/\Fits P fuel f.type x/\((cs.drop f.offset).take (P.cellsOf f.type)).length=P.cellsOf f.type:=by
     intro i f x hf hx;obtain⟨y,hy,rfl⟩:=hget i x hx;have h2:=hi i f y hf hy;have hm:f∈fs.toList:=List.mem_of_getElem? hf;exact ru hT fuel f.type _ y.1 y.2 (by obtain⟨k,hk,rfl⟩:=List.mem_iff_getElem.1 hm;simpa using hp.1 k (by simpa using hk)) (by rw[h2])
    refine⟨?_,⟨D.iU (ys.map (·.1)),by rw[D.of],hlen,fun i f x hf hx=>(key i f x hf hx).2.1⟩,hc⟩;rw[D.of,bg];have:=CJ (P:=P) (w:=w) (F:=(·<w.heap.size)) fs.toList (D.iU (ys.map (·.1))) 0 (P.cellsOf t) cs hp.2 hc (Nat.zero_le _) hlen (fun i f x hf hx=>⟨(key i f x hf hx).1,(key i f x hf hx).2.2⟩);simpa using this
   |_=>simp at hp
def yN(P:Program)(n:Nat):List TypeId->List D->Prop
 |[],[]=>True
 |t::ts,x::xs=>Fits P n t x/\yN P n ts xs
 |_,_=>False
theorem u7{P:Program}{n:Nat}:∀(fs:List Field) (xs:List D),xs.length=fs.length->(∀(i:Nat) (f:Field) (y:D),fs[i]?=some f->xs[i]?=some y->Fits P n f.type y)->yN P n (fs.map (·.type)) xs
 |[],[],_,_=>trivial
 |[],_::_,h,_=>by simp at h
 |_::_,[],h,_=>by simp at h
 |f::fs,x::xs,hl,h=>⟨h 0 f x rfl rfl,u7 fs xs (by simpa using hl) (fun i g y hg hy=>h (i+1) g y (by simpa using hg) (by simpa using hy))⟩
theorem Fits.struct{P:Program}{n:Nat}{t:TypeId}{x:D}{fs:Array Field}{ts:List TypeId}(hu:P.underlying t=some (.struct fs))(hts:fs.toList.map (·.type)=ts)(h:Fits P n t x):
  ∃m xs,n=m+1/\x=.st xs/\yN P m ts xs:=by
 cases n with
 |zero=>exact h.elim
 |succ n=>
  rw[Fits,hu] at h;obtain⟨xs,rfl,hl,hx⟩:=h;exact⟨n,xs,rfl,rfl,by rw[<-hts];exact u7 _ _ hl hx⟩
theorem Fits.slice{P:Program}{n:Nat}{t e:TypeId}{x:D}(hu:P.underlying t=some (.slice e))(h:Fits P n t x):∃m xs,n=m+1/\x=.sl xs/\∀y∈xs,Fits P m e y:=by
 cases n with
 |zero=>exact h.elim
 |succ n=>
  rw[Fits,hu] at h;obtain⟨xs,rfl,hx⟩:=h;exact⟨n,xs,rfl,rfl,hx⟩
theorem Fits.int{P:Program}{n:Nat}{t:TypeId}{x:D}{k:IntKind}(hu:P.underlying t=some (.int k))(h:Fits P n t x):∃m,x=.int k m/\(Lit.int k m).wf=true:=by
 cases n with
 |zero=>exact h.elim
 |succ n=>rw[Fits,hu] at h;exact h
theorem Fits.bool{P:Program}{n:Nat}{t:TypeId}{x:D}(hu:P.underlying t=some .bool)(h:Fits P n t x):∃b,x=.bool b:=by
 cases n with
 |zero=>exact h.elim
 |succ n=>rw[Fits,hu] at h;exact h
theorem Fits.str{P:Program}{n:Nat}{t:TypeId}{x:D}(hu:P.underlying t=some .string)(h:Fits P n t x):∃s,x=.str s/\s.size<=maxLen:=by
 cases n with
 |zero=>exact h.elim
 |succ n=>rw[Fits,hu] at h;exact h
theorem FL{α:Type}{f:α->D}:∀ {xs:List D},(∀y∈xs,∃a,y=f a)->∃l:List α,xs=l.map f
 |[],_=>⟨[],rfl⟩
 |x::r,h=>by
  obtain⟨a,rfl⟩:=h x (by simp);obtain⟨l,rfl⟩:=FL (xs:=r) (f:=f) (fun y hy=>h y (by simp[hy]));exact⟨a::l,rfl⟩
theorem Fits.gL{f:α->D}{n:Nat}{x:D}(hu:P.underlying t=some (.slice e))(h:Fits P n t x)(he:∀m y,m<n->Fits P m e y->∃a,y=f a):∃l:List α,x=.sl (l.map f):=by
 obtain⟨m,xs,rfl,rfl,hx⟩:=h.slice hu;obtain⟨l,rfl⟩:=FL (f:=f) (fun y hy=>he m y (by omega) (hx y hy));exact⟨l,rfl⟩
theorem wf_i64{n:Int}(h:(Lit.int .i64 n).wf=true): -9223372036854775808<=n/\n<=9223372036854775807:=by
 have:IntKind.i64.min= -9223372036854775808:=by decide
 simpa[Lit.wf,this] using h
structure Mod (S:Nat->Prop) (w w':World):Prop where
 os:w'.os=w.os
 tape:w'.tape=w.tape
 output:w'.output=w.output
 size:w.heap.size<=w'.heap.size
 block:∀k,k<w.heap.size->¬S k->w'.heap[k]?=w.heap[k]?
theorem Mod.refl(S:Nat->Prop)(w:World):Mod S w w:=⟨rfl,rfl,rfl,Nat.le_refl _,fun _ _ _=>rfl⟩
theorem Mod.trans{S T:Nat->Prop}{a b c:World}(h:Mod S a b)(k:Mod T b c)(hT:∀i,i<a.heap.size->T i->S i):Mod S a c:=
 ⟨k.os.trans h.os,k.tape.trans h.tape,k.output.trans h.output,Nat.le_trans h.size k.size,
  fun i hi hs=>(k.block i (Nat.lt_of_lt_of_le hi h.size) (fun ht=>hs (hT i hi ht))).trans (h.block i hi hs)⟩
theorem Mod.mono{T:Nat->Prop}{a b:World}(h:Mod S a b)(hT:∀i,S i->T i):Mod T a b:=
 ⟨h.os,h.tape,h.output,h.size,fun i hi hs=>h.block i hi (fun ht=>hs (hT i ht))⟩
theorem Mod.of_below(h:Below w.heap.size w w'):Mod S w w':=⟨h.os,h.tape,h.output,h.size,fun k hk _=>h.block k hk⟩
theorem Mod.vX(h:w.grownBy w' r)(hr:∀k,r=some k->S k):Mod S w w':=
 ⟨h.os,h.tape,h.output,h.size,fun k hk hs=>h.block k hk (fun e=>hs (hr k e.symm))⟩
theorem Mod.below(h:Mod S w w')(hB:B<=w.heap.size)(hS:∀k,S k->B<=k):Below B w w':=
 ⟨h.os,h.tape,h.output,h.size,fun k hk=>h.block k (by omega) (fun hs=>by have:=hS k hs;omega)⟩
theorem Mod.setCell{S:Nat->Prop}{a w:World}(h:Mod S a w){p:Addr}(hp:p.block<a.heap.size->S p.block)(u:Value):Mod S a (w.setCell p u):=
 h.trans (T:=fun k=>k=p.block) ⟨rfl,rfl,rfl,by simp[World.setCell],fun k _ hk=>Below.heap_setCell _ _ _ _ hk⟩ (fun i hi e=>by subst e;exact hp hi)
theorem Mod.alloc{S:Nat->Prop}{a w:World}(h:Mod S a w)(o:Obj):Mod S a (w.alloc o):=
 h.trans (T:=fun _=>False) ⟨rfl,rfl,rfl,by simp,fun k hk _=>Below.heap_alloc _ _ _ hk⟩ (fun _ _ e=>e.elim)
theorem Mod.drew{S:Nat->Prop}{a w:World}(h:Mod S a w):Mod S a w.drew:=⟨h.os,h.tape,h.output,h.size,h.block⟩
theorem Mod.agree(h:Mod S w w')(hF:∀k,F k->k<w.heap.size/\¬S k):Agree F w w':=fun k hk=>h.block k (hF k hk).1 (hF k hk).2
theorem bU.cells{w:World}{F:Nat->Prop}:∀ {xs:List D} {b o:Nat},bU w F xs b o->∃cs,au w F xs cs/\ay w b o cs
 |[],_,_,_=>⟨[],by rw[au],fun j hj=>by simp at hj⟩
 |x::r,b,o,h=>by
  rw[bU] at h;obtain⟨⟨c1,h1,h2⟩,hr⟩:=h;obtain⟨c2,h3,h4⟩:=hr.cells;refine⟨c1++c2,by rw[au];exact⟨c1,c2,rfl,h1,h3⟩,fun j hj=>?_⟩;by_cases hlt:j<c1.length
  ·rw[List.getElem_append_left hlt];exact h2 j hlt
  ·rw[List.getElem_append_right (by omega)];have:=h4 (j-c1.length) (by simp at hj;omega);have hw:=bg.length x c1 h1
   rwa [show o+x.width+(j-c1.length)=o+j from by omega] at this
mutual
theorem bg.one{w:World}{F:Nat->Prop}:∀(x:D) (cs:List Value),bg w F x cs->∀u∈cs,u.oneCell'=true
 | .int _ _,_,h=>by rw[bg] at h;obtain⟨rfl,_⟩:=h;simp[Value.oneCell']
 | .bool _,_,h=>by rw[bg] at h;subst h;simp[Value.oneCell']
 | .str _,_,h=>by rw[bg] at h;obtain⟨rfl,_⟩:=h;simp[Value.oneCell']
 | .sl _,_,h=>by rw[bg] at h;obtain⟨_,_,_,_,rfl,_⟩:=h;simp[Value.oneCell']
 | .st xs,cs,h=>by rw[bg] at h;exact au.one xs cs h
theorem au.one{w:World}{F:Nat->Prop}:∀(xs:List D) (cs:List Value),au w F xs cs->∀u∈cs,u.oneCell'=true
 |[],_,h=>by rw[au] at h;subst h;simp
 |x::r,cs,h=>by
  rw[au] at h;obtain⟨c1,c2,rfl,h1,h2⟩:=h;intro u hu;rcases List.mem_append.1 hu with hu|hu
  ·exact bg.one x c1 h1 u hu
  ·exact au.one r c2 h2 u hu
end
theorem bg.source{xs:List D}(h:bg w F (.sl xs) [v])(hn:0<xs.length):
  ∃b o cap cs,v=.slice (some ⟨b,o,none⟩) xs.length cap/\au w F xs cs/\(∀j u,cs[j]?=some u->w.cell? ((⟨b,o,none⟩:Addr).add j)=some u)/\(∀u∈cs,u.oneCell'=true)/\F b:=by
 rw[bg] at h;obtain⟨a,b,o,cap,e,hs,_,_,hr⟩:=h;obtain⟨rfl,hb⟩:=hs hn;obtain⟨cs,h1,h2⟩:=hr.cells;simp only[List.cons.injEq,and_true] at e;refine⟨b,o,cap,cs,e,h1,fun j u hu=>?_,au.one _ _ h1,hb⟩;obtain⟨hj,rfl⟩:=List.getElem?_eq_some_iff.1 hu;have:=h2 j hj;unfold Addr.add;by_cases h0:j=0
 ·subst h0;simpa using this
 ·rw[if_neg h0];exact this
structure Own (w:World) (F:Nat->Prop) (e:TypeId) (sz:Nat) (v:Value) (r:Option Nat) (xs:List D):Prop where
 cells:∃cs,w.ownsRow 0 e sz v xs.length cs/\au w F xs cs
 row:v.ownBlock=r
 off:∀k,r=some k->¬F k
 lt:∀k,F k->k<w.heap.size
theorem Own.nil(w:World)(F:Nat->Prop)(e:TypeId)(sz:Nat)(lt:∀k,F k->k<w.heap.size):Own w F e sz (.slice none 0 0) none []:=
 ⟨⟨[],World.ownsRow_nil w 0 e sz,by rw[au]⟩,rfl,fun _ h=>(by cases h),lt⟩
theorem Own.fQ{xs:List D}(h:Own w F e sz v r xs){k:Nat}(hr:r=some k):k<w.heap.size:=by
 obtain⟨cs,h1,_⟩:=h.cells;exact(h1.lt k (h.row.trans hr)).2
theorem Own.kept{xs:List D}(h:Own w F e sz v r xs){S:Nat->Prop}(hm:Mod S w w')(hF:∀k,F k->¬S k)(hr:∀k,r=some k->¬S k):Own w' F e sz v r xs:=by
 obtain⟨cs,⟨h1,h2⟩,h3⟩:=h.cells;refine⟨⟨cs,⟨h1,?_⟩,au.agree (hm.agree (fun k hk=>⟨h.lt k hk,hF k hk⟩)) _ _ h3⟩,h.row,h.off,fun k hk=>Nat.lt_of_lt_of_le (h.lt k hk) hm.size⟩;rcases h2 with h2|⟨g,cap,cur,hv,hg,hh,rest⟩
 ·exact .inl h2
 ·have hrow:r=some g:=by rw[<-h.row,hv];rfl
  refine .inr ⟨g,cap,cur,hv,hg,?_,rest⟩;rw[hm.block g (h.fQ hrow) (hr g hrow)];exact hh
theorem Own.widen{xs:List D}(h:Own w F e sz v r xs)(nu:∀k,F k->G k)(hr:∀k,r=some k->¬G k)(hlt:∀k,G k->k<w.heap.size):Own w G e sz v r xs:=by
 obtain⟨cs,h1,h2⟩:=h.cells;exact⟨⟨cs,h1,au.mono nu _ _ h2⟩,h.row,hr,hlt⟩
theorem Own.appended{v':Value}{xs ys:List D}{news:List Value}(h:Own w F e sz v r xs)(hcs:au w F xs cs)(h1:w'.ownsRow 0 e sz v' (xs.length+ys.length) (cs++news))(hg:w.grownBy w' v.ownBlock)(hat:v'.ownBlock=v.ownBlock∨v'.ownBlock=some w.heap.size)(hn:au w F ys news):
  Own w' F e sz v' v'.ownBlock (xs++ys)/\Mod (fun k=>r=some k) w w'/\(v'.ownBlock=r∨v'.ownBlock=some w.heap.size):=by
 have hm:Mod (fun k=>r=some k) w w':=Mod.vX hg (fun k hk=>by rw[<-h.row];exact hk);have ha:Agree F w w':=hm.agree (fun k hk=>⟨h.lt k hk,fun hr=>h.off k hr hk⟩);refine⟨⟨⟨cs++news,by rw[List.length_append];exact h1,au.append (au.agree ha _ _ hcs) (au.agree ha _ _ hn)⟩,rfl,fun k hk hF=>?_,fun k hk=>Nat.lt_of_lt_of_le (h.lt k hk) hm.size⟩,hm,by rw[<-h.row];exact hat⟩;rcases hat with hat|hat
 ·exact h.off k (by rw[<-h.row,<-hat];exact hk) hF
 ·rw[hat] at hk;have:=h.lt k hF;simp at hk;omega
theorem Own.read{xs:List D}(h:Own w F e sz v r xs)(nu:∀k,F k->G k)(hr:∀k,r=some k->G k)(hw:bO xs=xs.length*sz):bg w G (.sl xs) [v]:=by
 obtain⟨cs,h1,h2⟩:=h.cells;have h1':=h1;obtain⟨hlen,h1⟩:=h1;rcases h1 with⟨rfl,hn⟩|⟨g,cap,cur,rfl,_,hh,hc1,hc2,hc3,hc4⟩
 ·obtain rfl:xs=[]:=List.length_eq_zero_iff.1 hn;exact bg.slice (xs:=[]) (b:=0) (o:=0) (a:=none) (fun h=>by simp at h) (Nat.le_refl _) (Nat.zero_le _) (by rw[bU];trivial)
 ·refine bg.slice (b:=g) (o:=0) (fun _=>⟨rfl,hr g (h.row▸rfl)⟩) hc1 hc2 (bU.mk (cs:=cs) (au.mono nu _ _ h2) (fun j hj=>?_));have:=h1'.cellAt (g:=g) (cap:=cap) j (by rw[<-hlen];exact hj);simp only[Nat.zero_add];rw[this];simp[hj]
theorem Own.lit{n:Nat}{xs:List D}(hn:xs.length=n)(hmx:n<=maxLen)(hl:cs.length=n*sz)(h:au w F xs cs)(lt:∀k,F k->k<w.heap.size):
  Own (w.alloc (.cells cs.toArray e)) F e sz (.slice (some ⟨w.heap.size,0,none⟩) n n) (some w.heap.size) xs:=by
 refine⟨⟨cs,?_,au.agree (fun k hk=>Below.heap_alloc _ _ _ (lt k hk)) _ _ h⟩,rfl,fun k hk hF=>by have:=lt k hF;simp at hk;omega,fun k hk=>by have:=lt k hk;simp;omega⟩;subst hn;exact⟨hl,.inr ⟨w.heap.size,xs.length,cs.toArray,rfl,Nat.zero_le _,by show(w.heap.push _)[w.heap.size]?=_;simp,Nat.le_refl _,hmx,by simp[hl],by simp[<-hl]⟩⟩
def bD(xs:List Int):List D:=xs.map (D.int .i64)
@[simp] theorem iv(xs:List Int):(bD xs).length=xs.length:=by simp[bD]
theorem qF(xs ys:List Int):bD (xs++ys)=bD xs++bD ys:=by simp[bD]
theorem iw:∀xs:List Int,bO (bD xs)=xs.length
 |[]=>rfl
 |x::r=>by
  have:=iw r;simp only[bD,List.map_cons,bO,D.width] at this ⊢;simp only[List.length_cons];omega
def yL(xs:List Int):Prop:=∀x∈xs,-9223372036854775808<=x/\x<=9223372036854775807
theorem au.ints{w:World}{F:Nat->Prop}:∀ {xs:List Int},yL xs->au w F (bD xs) (xs.map (Value.int .i64))
 |[],_=>by rw[bD,List.map_nil,au];rfl
 |x::r,h=>by
  rw[bD,List.map_cons,au];exact⟨[.int .i64 x],r.map (Value.int .i64),rfl,by rw[bg];exact⟨rfl,WalkArith.wf_i64 (h x (by simp))⟩,au.ints (fun y hy=>h y (by simp[hy]))⟩
theorem Own.form{xs:List D}(h:Own w F e sz v r xs):∃a cap,v=.slice a xs.length cap:=by
 obtain⟨cs,h1,_⟩:=h.cells;rcases h1.2 with⟨rfl,hn⟩|⟨g,cap,cur,rfl,_⟩
 ·exact⟨none,0,by rw[hn]⟩
 ·exact⟨_,cap,rfl⟩
structure Nc where
 c:List Int
 l:List Int
 least:Int
def Nc.toD(x:Nc):D:=.st [.sl (bD x.c),.sl (bD x.l),.int .i64 x.least]
theorem Nc.width(x:Nc):x.toD.width=3:=by simp[Nc.toD,D.width,bO]
theorem Nc.at{l:List Int}{vC vL:Value}(hC:bg w F (.sl (bD c)) [vC])(hL:bg w F (.sl (bD l)) [vL])(h: -9223372036854775808<=least/\least<=9223372036854775807):
  au w F [Nc.toD ⟨c,l,least⟩] [vC,vL,.int .i64 least]:=by
 rw[au];refine⟨_,[],(List.append_nil _).symm,?_,by rw[au]⟩;rw[Nc.toD,bg,au];refine⟨[vC],_,rfl,hC,?_⟩;rw[au];refine⟨[vL],_,rfl,hL,?_⟩;rw[au];exact⟨[.int .i64 least],[],rfl,by rw[bg];exact⟨rfl,WalkArith.wf_i64 h⟩,by rw[au]⟩
theorem aW{cs:Array Value}(u:Value)(h:w.heap[A]?=some (.cells cs t fz)):(w.setCell ⟨A,i,none⟩ u).heap[A]?=some (.cells (cs.setIfInBounds i u) t fz):=by
 simp[World.setCell,Array.getElem?_modify,h]
theorem fH{cs:Array Value}(h:w.heap[b]?=some (.cells cs t (0,0))):w.frozen? ⟨b,i,none⟩=false:=by
 simp[World.frozen?,h]
theorem Own.alloc{w:World}{F:Nat->Prop}{e:TypeId}{sz:Nat}{v:Value}{r:Option Nat}{xs:List D}(h:Own w F e sz v r xs)(o:Obj):Own (w.alloc o) F e sz v r xs:=
 h.kept (S:=fun _=>False) ((Mod.refl _ w).alloc o) (fun _ _ e=>e) (fun _ _ e=>e)
theorem Own.below{xs:List D}(h:Own w F e sz v r xs)(hb:Below w.heap.size w w'):Own w' F e sz v r xs:=
 h.kept (S:=fun _=>False) (Mod.of_below hb) (fun _ _ e=>e) (fun _ _ e=>e)
structure jQ (w:World) (A:Nat) (tl ti:TypeId) (v1 v2:Value) (r1 r2:Nat) (c l:List Int) (least:Int):Prop where
 box:w.heap[A]?=some (.cells #[v1,v2,.int .i64 least] tl (0,0))
 o1:Own w (fun _=>False) ti 1 v1 (some r1) (bD c)
 o2:Own w (fun _=>False) ti 1 v2 (some r2) (bD l)
 n12:r1≠r2
 n1:r1≠A
 n2:r2≠A
theorem jQ.kept{w w':World}{A:Nat}{tl ti:TypeId}{v1 v2:Value}{r1 r2:Nat}{c l:List Int}{least:Int}(h:jQ w A tl ti v1 v2 r1 r2 c l least){S:Nat->Prop}(hm:Mod S w w')(hA:¬S A)(h1:¬S r1)(h2:¬S r2):jQ w' A tl ti v1 v2 r1 r2 c l least:=
 ⟨(hm.block A (gS h.box).1 hA).trans h.box,h.o1.kept hm (fun _ e=>e.elim) (fun k hk=>by cases hk;exact h1),h.o2.kept hm (fun _ e=>e.elim) (fun k hk=>by cases hk;exact h2),h.n12,h.n1,h.n2⟩
theorem jQ.alloc{w:World}{A:Nat}{tl ti:TypeId}{v1 v2:Value}{r1 r2:Nat}{c l:List Int}{least:Int}(h:jQ w A tl ti v1 v2 r1 r2 c l least)(o:Obj):jQ (w.alloc o) A tl ti v1 v2 r1 r2 c l least:=
 h.kept (S:=fun _=>False) ((Mod.refl _ w).alloc o) id id id
theorem jQ.lt{l:List Int}(h:jQ w A tl ti v1 v2 r1 r2 c l least):A<w.heap.size/\r1<w.heap.size/\r2<w.heap.size:=
 ⟨(gS h.box).1,h.o1.fQ rfl,h.o2.fQ rfl⟩
theorem jQ.cells{l:List Int}(h:jQ w A tl ti v1 v2 r1 r2 c l least):
  w.cell? ⟨A,0,none⟩=some v1/\w.cell? ⟨A,1,none⟩=some v2/\w.cell? ⟨A,2,none⟩=some (.int .i64 least)/\w.frozen? ⟨A,0,none⟩=false/\w.frozen? ⟨A,1,none⟩=false:=
 ⟨cH h.box rfl,cH h.box rfl,cH h.box rfl,fH h.box,fH h.box⟩
theorem jQ.read{w:World}{G:Nat->Prop}{A:Nat}{tl ti:TypeId}{v1 v2:Value}{r1 r2:Nat}{c l:List Int}{least:Int}(h:jQ w A tl ti v1 v2 r1 r2 c l least)(h1:G r1)(h2:G r2)(hl: -9223372036854775808<=least/\least<=9223372036854775807):
  au w G [Nc.toD ⟨c,l,least⟩] [v1,v2,.int .i64 least]:=
 Nc.at (h.o1.read (fun _ e=>e.elim) (fun k hk=>by cases hk;exact h1) (by rw[iw];simp)) (h.o2.read (fun _ e=>e.elim) (fun k hk=>by cases hk;exact h2) (by rw[iw];simp)) hl
abbrev Bs.str(l:Bs):ByteArray:=⟨l.toArray⟩
theorem aZ(l:Bs):(⟨l.toArray⟩:ByteArray).size=l.length:=by show l.toArray.size=_;simp
theorem qC(s:ByteArray):∃l:Bs,s=⟨l.toArray⟩:=⟨s.data.toList,by cases s;simp⟩
def ku(n:Int):Prop:= -9223372036854775808<=n/\n<=9223372036854775807
theorem bT{a b:Bool}(h:a=b):Ending.returned (.bool a)=.returned (.bool b):=by rw[h]
theorem aQ{k:IntKind}{a b:Int}(h:a=b):Ending.returned (.int k a)=.returned (.int k b):=by rw[h]
mutual
def D.rR:D->Bool
 | .sl _=>false
 | .st xs=>jq xs
 |_=>true
def jq:List D->Bool
 |[]=>true
 |x::r=>x.rR&&jq r
end
mutual
def D.vals:D->List Value
 | .int k n=>[.int k n]
 | .bool b=>[.bool b]
 | .str s=>[.string s]
 | .sl _=>[]
 | .st xs=>rC xs
def rC:List D->List Value
 |[]=>[]
 |x::r=>x.vals++rC r
end
mutual
def D.fine:D->Prop
 | .int k n=>(Lit.int k n).wf=true
 | .str s=>s.size<=maxLen
 | .st xs=>Bf xs
 |_=>True
def Bf:List D->Prop
 |[]=>True
 |x::r=>x.fine/\Bf r
end
mutual
theorem bg.flat{w:World}{F:Nat->Prop}:∀(x:D) (cs:List Value),x.rR=true->(bg w F x cs↔cs=x.vals/\x.fine)
 | .int _ _,_,_=>by rw[bg,D.vals,D.fine]
 | .bool _,_,_=>by rw[bg,D.vals.eq_def,D.fine.eq_def];simp
 | .str _,_,_=>by rw[bg,D.vals,D.fine]
 | .sl _,_,h=>by simp[D.rR] at h
 | .st xs,cs,h=>by rw[bg,D.vals,D.fine];exact au.flat xs cs (by simpa[D.rR] using h)
theorem au.flat{w:World}{F:Nat->Prop}:∀(xs:List D) (cs:List Value),jq xs=true->(au w F xs cs↔cs=rC xs/\Bf xs)
 |[],_,_=>by rw[au,rC,Bf];simp
 |x::r,cs,h=>by
  rw[jq,Bool.and_eq_true] at h;rw[au,rC,Bf];constructor
  ·rintro⟨c1,c2,rfl,h1,h2⟩;obtain⟨rfl,g1⟩:=(bg.flat x c1 h.1).1 h1;obtain⟨rfl,g2⟩:=(au.flat r c2 h.2).1 h2;exact⟨rfl,g1,g2⟩
  ·rintro⟨rfl,g1,g2⟩;exact⟨_,_,rfl,(bg.flat x _ h.1).2 ⟨rfl,g1⟩,(au.flat r _ h.2).2 ⟨rfl,g2⟩⟩
end
def gD{α:Type}(w:World)(f:α->D)(sz:Nat)(l:List α)(b o:Nat):Prop:=∀i (h:i<l.length),ay w b (o+i*sz) (f l[i]).vals
structure kK {α:Type} (f:α->D) (sz:Nat):Prop where
 flat:∀x,(f x).rR=true
 width:∀x,(f x).width=sz
theorem bU.flat{α:Type}{f:α->D}{sz:Nat}(hf:kK f sz){w:World}{F:Nat->Prop}{l:List α}{b o:Nat}(h:bU w F (l.map f) b o):gD w f sz l b o/\∀x∈l,(f x).fine:=by
 have key:∀i (hi:i<l.length),ay w b (o+i*sz) (f l[i]).vals/\(f l[i]).fine:=fun i hi=>by
  obtain⟨cs,h1,h2⟩:=h.get (sz:=sz) (fun x hx=>by obtain⟨y,_,rfl⟩:=List.mem_map.1 hx;exact hf.width y) i (by simpa using hi);rw[List.getElem_map] at h1;obtain⟨rfl,h3⟩:=(bg.flat _ _ (hf.flat _)).1 h1;exact⟨h2,h3⟩
 refine⟨fun i hi=>(key i hi).1,fun x hx=>?_⟩;obtain⟨i,hi,rfl⟩:=List.mem_iff_getElem.1 hx;exact(key i hi).2
theorem bU.of_flat{f:α->D}(hf:kK f sz){w:World}{F:Nat->Prop}{l:List α}{b o:Nat}(h:gD w f sz l b o)(hk:∀x∈l,(f x).fine):bU w F (l.map f) b o:=
 row_of (sz:=sz) _ _ (fun i x hx=>by
  simp only[List.getElem?_map,Option.map_eq_some_iff] at hx;obtain⟨y,hy,rfl⟩:=hx;obtain⟨hi,rfl⟩:=List.getElem?_eq_some_iff.1 hy;exact⟨hf.width _,_,(bg.flat _ _ (hf.flat _)).2 ⟨rfl,hk _ (List.getElem_mem hi)⟩,h i hi⟩)
theorem gD.agree{α:Type}{f:α->D}{sz:Nat}{F:Nat->Prop}{w w':World}{l:List α}{b o:Nat}(h:gD w f sz l b o)(ha:Agree F w w')(hb:0<l.length->F b):gD w' f sz l b o:=fun i hi=>(h i hi).agree ha (hb (by omega))
theorem gD.below{f:α->D}{l:List α}(h:gD w f sz l b o)(hb:Below B w w')(hlt:0<l.length->b<B):gD w' f sz l b o:=h.agree (ag hb) hlt
theorem gD.one{f:α->D}{l:List α}(h:gD w f sz l b o)(i:Nat)(hi:i<l.length){c0:Value}(e:(f l[i]).vals=[c0]):w.cell? ⟨b,o+i*sz,none⟩=some c0:=by
 have:=h i hi;rw[e] at this;simpa using this 0 (by simp)
theorem gD.two{f:α->D}{l:List α}(h:gD w f sz l b o)(i:Nat)(hi:i<l.length){c0 c1:Value}(e:(f l[i]).vals=[c0,c1]):w.cell? ⟨b,o+i*sz,none⟩=some c0/\w.cell? ⟨b,o+i*sz+1,none⟩=some c1:=by
 have:=h i hi;rw[e] at this;exact⟨by simpa using this 0 (by simp),by simpa using this 1 (by simp)⟩
theorem gD.three{f:α->D}{l:List α}(h:gD w f sz l b o)(i:Nat)(hi:i<l.length){c0 c1 c2:Value}(e:(f l[i]).vals=[c0,c1,c2]):w.cell? ⟨b,o+i*sz,none⟩=some c0/\w.cell? ⟨b,o+i*sz+1,none⟩=some c1/\w.cell? ⟨b,o+i*sz+2,none⟩=some c2:=by
 have:=h i hi;rw[e] at this;exact⟨by simpa using this 0 (by simp),by simpa using this 1 (by simp),by simpa using this 2 (by simp)⟩
structure aK where
 a:Option Addr
 b:Nat
 o:Nat
 cap:Nat
abbrev aK.val(x:aK)(n:Nat):Value:=.slice x.a n x.cap
structure aj (w:World) (F:Nat->Prop) (xs:List D) (x:aK):Prop where
 at_:gT F x.a x.b x.o xs.length
 le:xs.length<=x.cap
 max:x.cap<=maxLen
 row:bU w F xs x.b x.o
theorem bg.cO{xs:List D}:bg w F (.sl xs) cs↔ ∃x:aK,cs=[x.val xs.length]/\aj w F xs x:=by
 rw[bg];constructor
 ·rintro⟨a,b,o,cap,h1,h2,h3,h4,h5⟩;exact⟨⟨a,b,o,cap⟩,h1,h2,h3,h4,h5⟩
 ·rintro⟨⟨a,b,o,cap⟩,h1,h2,h3,h4,h5⟩;exact⟨a,b,o,cap,h1,h2,h3,h4,h5⟩
theorem aj.agree{F:Nat->Prop}{w w':World}{xs:List D}{x:aK}(h:aj w F xs x)(ha:Agree F w w'):aj w' F xs x:=
 ⟨h.at_,h.le,h.max,bU.agree ha xs _ _ (fun hne=>(h.at_ (by cases xs<;>simp_all)).2) h.row⟩
theorem aj.mono{F G:Nat->Prop}{w:World}{xs:List D}{x:aK}(h:aj w F xs x)(nu:∀k,F k->G k):aj w G xs x:=⟨h.at_.mono nu,h.le,h.max,bU.mono nu _ _ _ h.row⟩
structure bH where
 kind:Int
 name:Bs
 n:Int
deriving DecidableEq
structure aD where
 name:Bs
 sort:Int
deriving DecidableEq
structure Ev where
 name:Bs
 sort:Int
 at_:Int
deriving DecidableEq
structure Pt where
 slot:Int
 room:Int
deriving DecidableEq
structure ma where
 name:Bs
 day:Int
 hour:Int
deriving DecidableEq
structure qi where
 name:Bs
 house:Int
 seats:Int
 shut:List Int
deriving DecidableEq
structure sG where
 name:Bs
 away:List Int
deriving DecidableEq
structure qm where
 name:Bs
 size:Int
deriving DecidableEq
structure qx where
 name:Bs
 who:List Int
 groups:List Int
deriving DecidableEq
structure aF where
 slots:List ma
 ah:List qi
 people:List sG
 groups:List qm
 lessons:List qx
deriving DecidableEq
def bH.toD(x:bH):D:=.st [.int .i64 x.kind,.str ⟨x.name.toArray⟩,.int .i64 x.n]
def aD.toD(x:aD):D:=.st [.str ⟨x.name.toArray⟩,.int .i64 x.sort]
def Ev.toD(x:Ev):D:=.st [.str ⟨x.name.toArray⟩,.int .i64 x.sort,.int .i64 x.at_]
def Pt.toD(x:Pt):D:=.st [.int .i64 x.slot,.int .i64 x.room]
def ma.toD(x:ma):D:=.st [.str ⟨x.name.toArray⟩,.int .i64 x.day,.int .i64 x.hour]
def qm.toD(x:qm):D:=.st [.str ⟨x.name.toArray⟩,.int .i64 x.size]
def sG.toD(x:sG):D:=.st [.str ⟨x.name.toArray⟩,.sl (bD x.away)]
def qi.toD(x:qi):D:=.st [.str ⟨x.name.toArray⟩,.int .i64 x.house,.int .i64 x.seats,.sl (bD x.shut)]
def qx.toD(x:qx):D:=.st [.str ⟨x.name.toArray⟩,.sl (bD x.who),.sl (bD x.groups)]
def aF.toD(x:aF):D:=.st [.sl (x.slots.map ma.toD),.sl (x.ah.map qi.toD),.sl (x.people.map sG.toD),.sl (x.groups.map qm.toD),.sl (x.lessons.map qx.toD)]
theorem bH.bI:kK bH.toD 3:=⟨fun _=>rfl,fun _=>rfl⟩
theorem aD.bI:kK aD.toD 2:=⟨fun _=>rfl,fun _=>rfl⟩
theorem Ev.bI:kK Ev.toD 3:=⟨fun _=>rfl,fun _=>rfl⟩
theorem Pt.bI:kK Pt.toD 2:=⟨fun _=>rfl,fun _=>rfl⟩
theorem ma.bI:kK ma.toD 3:=⟨fun _=>rfl,fun _=>rfl⟩
theorem qm.bI:kK qm.toD 2:=⟨fun _=>rfl,fun _=>rfl⟩
theorem Int.bI:kK (D.int .i64) 1:=⟨fun _=>rfl,fun _=>rfl⟩
inductive ae where
 |mk (kind:Int) (name:Bs) (n:Int) (terms:List bH) (binds:List aD) (l:List ae)
def ae.kind:ae->Int| .mk a _ _ _ _ _=>a
def ae.name:ae->Bs| .mk _ a _ _ _ _=>a
def ae.n:ae->Int| .mk _ _ a _ _ _=>a
def ae.terms:ae->List bH| .mk _ _ _ a _ _=>a
def ae.binds:ae->List aD| .mk _ _ _ _ a _=>a
def ae.l:ae->List ae| .mk _ _ _ _ _ a=>a
mutual
def ae.toD:ae->D
 | .mk kind name n terms binds l=>.st [.int .i64 kind,.str ⟨name.toArray⟩,.int .i64 n,.sl (terms.map bH.toD),.sl (binds.map aD.toD),.sl (ae.qb l)]
def ae.qb:List ae->List D
 |[]=>[]
 |t::r=>t.toD::ae.qb r
end
theorem ae.mO:∀l:List ae,ae.qb l=l.map ae.toD
 |[]=>rfl
 |t::r=>by rw[ae.qb,ae.mO r];rfl
theorem ae.width(f:ae):f.toD.width=6:=by cases f;simp[ae.toD,D.width,bO]
mutual
def ae.size:ae->Nat
 | .mk _ _ _ _ _ l=>1+bF l
def bF:List ae->Nat
 |[]=>0
 |t::r=>t.size+bF r
end
mutual
def ae.depth:ae->Nat
 | .mk _ _ _ _ _ l=>bQ l+1
def bQ:List ae->Nat
 |[]=>0
 |t::r=>max t.depth (bQ r)
end
structure bq where
 name:Bs
 hard:Bool
 weight:Int
 each:List aD
 body:ae
def bq.toD(x:bq):D:=.st [.str ⟨x.name.toArray⟩,.bool x.hard,.int .i64 x.weight,.sl (x.each.map aD.toD),x.body.toD]
theorem bq.width(x:bq):x.toD.width=10:=by simp[bq.toD,D.width,bO,ae.width]
theorem jE:∀(l:List ae) (i:Nat) (h:i<l.length),bF (l.take (i+1))=bF (l.take i)+(l[i]).size
 |t::r,0,_=>by simp[bF]
 |t::r,i+1,h=>by
  simp only[List.take_succ_cons,bF,List.getElem_cons_succ];rw[jE r i (by simpa using h)];omega
theorem fB:∀(l:List ae) (i:Nat),bF (l.take i)<=bF l
 |[],i=>by simp[bF]
 |t::r,0=>by simp[bF]
 |t::r,i+1=>by
  simp only[List.take_succ_cons,bF];have:=fB r i;omega
theorem ae.size_pos:∀t:ae,0<t.size| .mk _ _ _ _ _ _=>by simp only[ae.size];omega
theorem di:∀(l:List ae),l.length<=bF l
 |[]=>by simp
 |t::r=>by
  have:=di r;have:=t.size_pos;simp only[bF,List.length_cons];omega
theorem aT(l:List ae)(i:Nat)(h:i<l.length):(l[i]).size<=bF l:=by
 have h1:=jE l i h;have h2:=fB l (i+1);omega
theorem jB:∀(l:List ae) (i:Nat) (h:i<l.length),(l[i]).depth<=bQ l
 |t::r,0,_=>by simp only[bQ,List.getElem_cons_zero];omega
 |t::r,i+1,h=>by
  simp only[bQ,List.getElem_cons_succ];have:=jB r i (by simpa using h);omega
theorem jb:∀(l:List ae) (i:Nat) (h:i<l.length),bQ (l.take (i+1))=max (bQ (l.take i)) (l[i]).depth
 |t::r,0,_=>by simp[bQ]
 |t::r,i+1,h=>by
  simp only[List.take_succ_cons,bQ,List.getElem_cons_succ];rw[jb r i (by simpa using h)];omega
mutual
theorem ae.kT:∀t:ae,t.depth<=t.size
 | .mk _ _ _ _ _ l=>by rw[ae.depth,ae.size];have:=gP l;omega
theorem gP:∀l:List ae,bQ l<=bF l
 |[]=>by simp[bQ]
 |t::r=>by rw[bQ,bF];have:=ae.kT t;have:=gP r;omega
end
mutual
theorem ae.oz:∀t:ae,t.size<=t.toD.bulk
 | .mk _ _ _ _ _ l=>by rw[ae.size,ae.toD,D.bulk];simp only[dO,D.bulk];have:=ae.jM l;omega
theorem ae.jM:∀l:List ae,bF l<=dO (ae.qb l)
 |[]=>by simp[bF]
 |t::r=>by rw[bF,ae.qb,dO];have:=ae.oz t;have:=ae.jM r;omega
end
structure aC where
 t:aK
 b:aK
 l:aK
abbrev aC.cells(x:aC)(f:ae):List Value:=[.int .i64 f.kind,.string ⟨f.name.toArray⟩,.int .i64 f.n,x.t.val f.terms.length,x.b.val f.binds.length,x.l.val f.l.length]
structure aB (w:World) (F:Nat->Prop) (f:ae) (x:aC):Prop where
 kind:ku f.kind
 name:f.name.length<=maxLen
 n:ku f.n
 terms:aj w F (f.terms.map bH.toD) x.t
 binds:aj w F (f.binds.map aD.toD) x.b
 l:aj w F (f.l.map ae.toD) x.l
theorem ku.wf{n:Int}(h:ku n):(Lit.int .i64 n).wf=true:=WalkArith.wf_i64 h
theorem ku.qW{n:Int}(h:(Lit.int .i64 n).wf=true):ku n:=wf_i64 h
theorem aB.iff{f:ae}:bg w F f.toD cs↔ ∃x:aC,cs=x.cells f/\aB w F f x:=by
 obtain⟨kind,name,n,terms,binds,l⟩:=f;rw[ae.toD,bg,ae.mO];simp only[au];constructor
 ·rintro⟨_,_,rfl,h0,_,_,rfl,h1,_,_,rfl,h2,_,_,rfl,h3,_,_,rfl,h4,_,_,rfl,h5,rfl⟩;rw[bg] at h0;rw[bg] at h1;rw[bg] at h2;obtain⟨rfl,h0⟩:=h0;obtain⟨rfl,h1⟩:=h1;obtain⟨rfl,h2⟩:=h2;obtain⟨t,rfl,k3⟩:=bg.cO.1 h3;obtain⟨b,rfl,k4⟩:=bg.cO.1 h4;obtain⟨l',rfl,k5⟩:=bg.cO.1 h5;exact⟨⟨t,b,l'⟩,by simp[aC.cells,ae.kind,ae.name,ae.n,ae.terms,ae.binds,ae.l],ku.qW h0,by rwa [aZ] at h1,ku.qW h2,k3,k4,k5⟩
 ·rintro⟨⟨t,b,l'⟩,rfl,h0,h1,h2,h3,h4,h5⟩;refine⟨[_],_,rfl,by rw[bg];exact⟨rfl,h0.wf⟩,[_],_,rfl,by rw[bg];exact⟨rfl,by rw[aZ];exact h1⟩,[_],_,rfl,by rw[bg];exact⟨rfl,h2.wf⟩,[_],_,rfl,bg.cO.2 ⟨t,by simp[ae.terms],h3⟩,[_],_,rfl,bg.cO.2 ⟨b,by simp[ae.binds],h4⟩,[_],[],rfl,bg.cO.2 ⟨l',by simp[ae.l],h5⟩,rfl⟩
theorem aB.agree{F:Nat->Prop}{w w':World}{f:ae}{x:aC}(h:aB w F f x)(ha:Agree F w w'):aB w' F f x:=⟨h.kind,h.name,h.n,h.terms.agree ha,h.binds.agree ha,h.l.agree ha⟩
theorem aB.mono{F G:Nat->Prop}{w:World}{f:ae}{x:aC}(h:aB w F f x)(nu:∀k,F k->G k):aB w G f x:=⟨h.kind,h.name,h.n,h.terms.mono nu,h.binds.mono nu,h.l.mono nu⟩
theorem aB.later{f:ae}{x:aC}(h:aB w (·<B) f x)(hb:Below B w w')(hC:B<=C):aB w' (·<C) f x:=(h.agree (ag hb)).mono (fun _ hk=>Nat.lt_of_lt_of_le hk hC)
theorem aj.qK{l:List ae}{x:aK}(h:aj w F (l.map ae.toD) x)(i:Nat)(hi:i<l.length):
  ∃y:aC,aB w F l[i] y/\ay w x.b (x.o+i*6) (y.cells l[i]):=by
 obtain⟨cs,h1,h2⟩:=h.row.get (sz:=6) (fun d hd=>by obtain⟨t,_,rfl⟩:=List.mem_map.1 hd;exact t.width) i (by simpa using hi);rw[List.getElem_map] at h1;obtain⟨y,rfl,h3⟩:=aB.iff.1 h1;exact⟨y,h3,h2⟩
theorem ay.six{c4 c5:Value}(h:ay w b o [c0,c1,c2,c3,c4,c5]):w.cell? ⟨b,o,none⟩=some c0/\w.cell? ⟨b,o+1,none⟩=some c1/\w.cell? ⟨b,o+2,none⟩=some c2/\w.cell? ⟨b,o+3,none⟩=some c3/\w.cell? ⟨b,o+4,none⟩=some c4/\w.cell? ⟨b,o+5,none⟩=some c5:=
 ⟨by simpa using h 0 (by simp),by simpa using h 1 (by simp),by simpa using h 2 (by simp),by simpa using h 3 (by simp),by simpa using h 4 (by simp),by simpa using h 5 (by simp)⟩
structure bS where
 slots:aK
 ah:aK
 people:aK
 groups:aK
 lessons:aK
abbrev bS.cells(x:bS)(s:aF):List Value:=[x.slots.val s.slots.length,x.ah.val s.ah.length,x.people.val s.people.length,x.groups.val s.groups.length,x.lessons.val s.lessons.length]
structure dD (w:World) (F:Nat->Prop) (s:aF) (x:bS):Prop where
 slots:aj w F (s.slots.map ma.toD) x.slots
 ah:aj w F (s.ah.map qi.toD) x.ah
 people:aj w F (s.people.map sG.toD) x.people
 groups:aj w F (s.groups.map qm.toD) x.groups
 lessons:aj w F (s.lessons.map qx.toD) x.lessons
theorem dD.iff{s:aF}:bg w F s.toD cs↔ ∃x:bS,cs=x.cells s/\dD w F s x:=by
 rw[aF.toD,bg];simp only[au];constructor
 ·rintro⟨_,_,rfl,h0,_,_,rfl,h1,_,_,rfl,h2,_,_,rfl,h3,_,_,rfl,h4,rfl⟩;obtain⟨a,rfl,k0⟩:=bg.cO.1 h0;obtain⟨b,rfl,k1⟩:=bg.cO.1 h1;obtain⟨c,rfl,k2⟩:=bg.cO.1 h2;obtain⟨d,rfl,k3⟩:=bg.cO.1 h3;obtain⟨e,rfl,k4⟩:=bg.cO.1 h4;exact⟨⟨a,b,c,d,e⟩,by simp[bS.cells],k0,k1,k2,k3,k4⟩
 ·rintro⟨⟨a,b,c,d,e⟩,rfl,h0,h1,h2,h3,h4⟩;refine⟨[_],_,rfl,bg.cO.2 ⟨a,by simp,h0⟩,[_],_,rfl,bg.cO.2 ⟨b,by simp,h1⟩,[_],_,rfl,bg.cO.2 ⟨c,by simp,h2⟩,[_],_,rfl,bg.cO.2 ⟨d,by simp,h3⟩,[_],[],rfl,bg.cO.2 ⟨e,by simp,h4⟩,rfl⟩
theorem dD.agree{F:Nat->Prop}{w w':World}{s:aF}{x:bS}(h:dD w F s x)(ha:Agree F w w'):dD w' F s x:=⟨h.slots.agree ha,h.ah.agree ha,h.people.agree ha,h.groups.agree ha,h.lessons.agree ha⟩
theorem dD.mono{F G:Nat->Prop}{w:World}{s:aF}{x:bS}(h:dD w F s x)(nu:∀k,F k->G k):dD w G s x:=⟨h.slots.mono nu,h.ah.mono nu,h.people.mono nu,h.groups.mono nu,h.lessons.mono nu⟩
theorem dD.later{s:aF}{x:bS}(h:dD w (·<B) s x)(hb:Below B w w')(hC:B<=C):dD w' (·<C) s x:=(h.agree (ag hb)).mono (fun _ hk=>Nat.lt_of_lt_of_le hk hC)
theorem ay.two(h:ay w b o [c0,c1]):w.cell? ⟨b,o,none⟩=some c0/\w.cell? ⟨b,o+1,none⟩=some c1:=
 ⟨by simpa using h 0 (by simp),by simpa using h 1 (by simp)⟩
theorem ay.three(h:ay w b o [c0,c1,c2]):w.cell? ⟨b,o,none⟩=some c0/\w.cell? ⟨b,o+1,none⟩=some c1/\w.cell? ⟨b,o+2,none⟩=some c2:=
 ⟨by simpa using h 0 (by simp),by simpa using h 1 (by simp),by simpa using h 2 (by simp)⟩
theorem ay.four(h:ay w b o [c0,c1,c2,c3]):w.cell? ⟨b,o,none⟩=some c0/\w.cell? ⟨b,o+1,none⟩=some c1/\w.cell? ⟨b,o+2,none⟩=some c2/\w.cell? ⟨b,o+3,none⟩=some c3:=
 ⟨by simpa using h 0 (by simp),by simpa using h 1 (by simp),by simpa using h 2 (by simp),by simpa using h 3 (by simp)⟩
theorem aj.TU{l:List qi}{x:aK}(h:aj w F (l.map qi.toD) x)(i:Nat)(hi:i<l.length):
  ∃y:aK,aj w F (bD l[i].shut) y/\ku l[i].house/\ku l[i].seats/\l[i].name.length<=maxLen/\ay w x.b (x.o+i*4) [.string ⟨l[i].name.toArray⟩,.int .i64 l[i].house,.int .i64 l[i].seats,y.val l[i].shut.length]:=by
 obtain⟨cs,h1,h2⟩:=h.row.get (sz:=4) (fun d hd=>by obtain⟨t,_,rfl⟩:=List.mem_map.1 hd;rfl) i (by simpa using hi);rw[List.getElem_map,qi.toD,bg] at h1;simp only[au] at h1;obtain⟨_,_,rfl,g0,_,_,rfl,g1,_,_,rfl,g2,_,_,rfl,g3,rfl⟩:=h1;rw[bg] at g0;rw[bg] at g1;rw[bg] at g2;obtain⟨rfl,g0⟩:=g0;obtain⟨rfl,g1⟩:=g1;obtain⟨rfl,g2⟩:=g2;obtain⟨y,rfl,q3⟩:=bg.cO.1 g3;exact⟨y,q3,ku.qW g1,ku.qW g2,by rwa [aZ] at g0,by simpa using h2⟩
theorem aj.TR{l:List sG}{x:aK}(h:aj w F (l.map sG.toD) x)(i:Nat)(hi:i<l.length):
  ∃y:aK,aj w F (bD l[i].away) y/\l[i].name.length<=maxLen/\ay w x.b (x.o+i*2) [.string ⟨l[i].name.toArray⟩,y.val l[i].away.length]:=by
 obtain⟨cs,h1,h2⟩:=h.row.get (sz:=2) (fun d hd=>by obtain⟨t,_,rfl⟩:=List.mem_map.1 hd;rfl) i (by simpa using hi);rw[List.getElem_map,sG.toD,bg] at h1;simp only[au] at h1;obtain⟨_,_,rfl,g0,_,_,rfl,g3,rfl⟩:=h1;rw[bg] at g0;obtain⟨rfl,g0⟩:=g0;obtain⟨y,rfl,q3⟩:=bg.cO.1 g3;exact⟨y,q3,by rwa [aZ] at g0,by simpa using h2⟩
theorem aj.TN{l:List qx}{x:aK}(h:aj w F (l.map qx.toD) x)(i:Nat)(hi:i<l.length):
  ∃y z:aK,aj w F (bD l[i].who) y/\aj w F (bD l[i].groups) z/\l[i].name.length<=maxLen/\ay w x.b (x.o+i*3) [.string ⟨l[i].name.toArray⟩,y.val l[i].who.length,z.val l[i].groups.length]:=by
 obtain⟨cs,h1,h2⟩:=h.row.get (sz:=3) (fun d hd=>by obtain⟨t,_,rfl⟩:=List.mem_map.1 hd;rfl) i (by simpa using hi);rw[List.getElem_map,qx.toD,bg] at h1;simp only[au] at h1;obtain⟨_,_,rfl,g0,_,_,rfl,g3,_,_,rfl,g4,rfl⟩:=h1;rw[bg] at g0;obtain⟨rfl,g0⟩:=g0;obtain⟨y,rfl,q3⟩:=bg.cO.1 g3;obtain⟨z,rfl,q4⟩:=bg.cO.1 g4;exact⟨y,z,q3,q4,by rwa [aZ] at g0,by simpa using h2⟩
structure iG where
 each:aK
 body:aC
abbrev iG.cells(x:iG)(r:bq):List Value:=[.string ⟨r.name.toArray⟩,.bool r.hard,.int .i64 r.weight,x.each.val r.each.length,.int .i64 r.body.kind,.string ⟨r.body.name.toArray⟩,.int .i64 r.body.n,x.body.t.val r.body.terms.length,x.body.b.val r.body.binds.length,x.body.l.val r.body.l.length]
structure gV (w:World) (F:Nat->Prop) (r:bq) (x:iG):Prop where
 name:r.name.length<=maxLen
 weight:ku r.weight
 each:aj w F (r.each.map aD.toD) x.each
 body:aB w F r.body x.body
theorem gV.iff{w:World}{F:Nat->Prop}{r:bq}{cs:List Value}:bg w F r.toD cs↔ ∃x:iG,cs=x.cells r/\gV w F r x:=by
 rw[bq.toD,bg];simp only[au];constructor
 ·rintro⟨_,_,rfl,h0,_,_,rfl,h1,_,_,rfl,h2,_,_,rfl,h3,_,_,rfl,h4,rfl⟩;rw[bg] at h0;rw[bg] at h1;rw[bg] at h2;obtain⟨rfl,h0⟩:=h0;subst h1;obtain⟨rfl,h2⟩:=h2;obtain⟨e,rfl,k3⟩:=bg.cO.1 h3;obtain⟨b,rfl,k4⟩:=aB.iff.1 h4;exact⟨⟨e,b⟩,by simp[iG.cells,aC.cells],by rwa [aZ] at h0,ku.qW h2,k3,k4⟩
 ·rintro⟨⟨e,b⟩,rfl,h0,h2,h3,h4⟩;refine⟨[_],_,rfl,by rw[bg];exact⟨rfl,by rw[aZ];exact h0⟩,[_],_,rfl,by rw[bg],[_],_,rfl,by rw[bg];exact⟨rfl,h2.wf⟩,[_],_,rfl,bg.cO.2 ⟨e,by simp,h3⟩,_,[],by simp only[List.append_nil],aB.iff.2 ⟨b,rfl,h4⟩,rfl⟩
theorem gV.agree{F:Nat->Prop}{w w':World}{r:bq}{x:iG}(h:gV w F r x)(ha:Agree F w w'):gV w' F r x:=⟨h.name,h.weight,h.each.agree ha,h.body.agree ha⟩
theorem gV.mono{F G:Nat->Prop}{w:World}{r:bq}{x:iG}(h:gV w F r x)(nu:∀k,F k->G k):gV w G r x:=⟨h.name,h.weight,h.each.mono nu,h.body.mono nu⟩
theorem aj.Aj{l:List bq}{x:aK}(h:aj w F (l.map bq.toD) x)(i:Nat)(hi:i<l.length):
  ∃y:iG,gV w F l[i] y/\ay w x.b (x.o+i*10) (y.cells l[i]):=by
 obtain⟨cs,h1,h2⟩:=h.row.get (sz:=10) (fun d hd=>by obtain⟨t,_,rfl⟩:=List.mem_map.1 hd;exact t.width) i (by simpa using hi);rw[List.getElem_map] at h1;obtain⟨y,rfl,h3⟩:=gV.iff.1 h1;exact⟨y,h3,h2⟩
theorem aj.ints{l:List Int}{x:aK}(h:aj w F (bD l) x):gT F x.a x.b x.o l.length/\l.length<=x.cap/\x.cap<=maxLen/\yL l/\∀(i:Nat) (h:i<l.length),w.cell? ⟨x.b,x.o+i,none⟩=some (.int .i64 l[i]):=by
 have h0:bg w F (.sl (bD l)) [x.val l.length]:=bg.cO.2 ⟨x,by simp,h⟩;have hr:=bU.flat Int.bI (show bU w F (l.map (D.int .i64)) x.b x.o from h.row);refine⟨by simpa using h.at_,by simpa using h.le,h.max,fun n hn=>wf_i64 (hr.2 n hn),fun i hi=>?_⟩;have:=hr.1.one i hi (c0:=.int .i64 l[i]) rfl;simpa using this
theorem aj.flat{α:Type}{f:α->D}{sz:Nat}(hf:kK f sz){w:World}{F:Nat->Prop}{l:List α}{x:aK}(h:aj w F (l.map f) x):gT F x.a x.b x.o l.length/\l.length<=x.cap/\x.cap<=maxLen/\gD w f sz l x.b x.o/\∀y∈l,(f y).fine:=
 ⟨by simpa using h.at_,by simpa using h.le,h.max,bU.flat hf h.row⟩
inductive Tr where
 |mk (kind v k:Int) (l:List Tr)
def Tr.kind:Tr->Int| .mk a _ _ _=>a
def Tr.l:Tr->List Tr| .mk _ _ _ a=>a
mutual
def Tr.toD:Tr->D
 | .mk kind v k l=>.st [.int .i64 kind,.int .i64 v,.int .i64 k,.sl (Tr.qb l)]
def Tr.qb:List Tr->List D
 |[]=>[]
 |t::r=>t.toD::Tr.qb r
end
theorem Tr.mO:∀l:List Tr,Tr.qb l=l.map Tr.toD
 |[]=>rfl
 |t::r=>by rw[Tr.qb,Tr.mO r];rfl
theorem Tr.width(t:Tr):t.toD.width=4:=by cases t;simp[Tr.toD,D.width,bO]
mutual
def Tr.size:Tr->Nat
 | .mk _ _ _ l=>1+sizes l
def sizes:List Tr->Nat
 |[]=>0
 |t::r=>t.size+sizes r
end
theorem size_pos:∀t:Tr,0<t.size| .mk _ _ _ _=>by simp only[Tr.size];omega
mutual
theorem Tr.oz:∀t:Tr,t.size<=t.toD.bulk
 | .mk _ _ _ l=>by rw[Tr.size,Tr.toD,D.bulk];simp only[dO,D.bulk];have:=Tr.jM l;omega
theorem Tr.jM:∀l:List Tr,sizes l<=dO (Tr.qb l)
 |[]=>by simp[sizes]
 |t::r=>by rw[sizes,Tr.qb,dO];have:=Tr.oz t;have:=Tr.jM r;omega
end
def nE(w:World)(F:Nat->Prop)(t:Tr)(x:Value):Prop:=∃c0 c1 c2 c3,x=.agg #[c0,c1,c2,c3]/\bg w F t.toD [c0,c1,c2,c3]
theorem nE.agree{F:Nat->Prop}{w w':World}{t:Tr}{x:Value}(h:nE w F t x)(ha:Agree F w w'):nE w' F t x:=by
 obtain⟨c0,c1,c2,c3,rfl,h⟩:=h;exact⟨c0,c1,c2,c3,rfl,bg.agree ha _ _ h⟩
theorem nE.mono{F G:Nat->Prop}{w:World}{t:Tr}{x:Value}(h:nE w F t x)(nu:∀k,F k->G k):nE w G t x:=by
 obtain⟨c0,c1,c2,c3,rfl,h⟩:=h;exact⟨c0,c1,c2,c3,rfl,bg.mono nu _ _ h⟩
theorem nE.later{t:Tr}{x:Value}(h:nE w (·<B) t x)(hb:Below B w w')(hB:B<=w'.heap.size):nE w' (·<w'.heap.size) t x:=
 (h.agree (ag hb)).mono (fun _ hk=>Nat.lt_of_lt_of_le hk hB)
def Fu(w:World)(F:Nat->Prop)(l:List Tr)(b o:Nat):Prop:=
 ∀(i:Nat) (h:i<l.length),∃k0 k1 k2 a n cap,w.cell? ⟨b,o+i*4,none⟩=some (.int .i64 k0)/\w.cell? ⟨b,o+i*4+1,none⟩=some (.int .i64 k1)/\w.cell? ⟨b,o+i*4+2,none⟩=some (.int .i64 k2)/\w.cell? ⟨b,o+i*4+3,none⟩=some (.slice a n cap)/\
    nE w F l[i] (.agg #[.int .i64 k0,.int .i64 k1,.int .i64 k2,.slice a n cap])
theorem Fu.at{l:List Tr}(h:Fu w (·<B) l b o)(hb:Below B w w')(hbl:b<B)(i:Nat)(hi:i<l.length):
  ∃k0 k1 k2 a n cap,w'.cell? ⟨b,o+i*4,none⟩=some (.int .i64 k0)/\w'.cell? ⟨b,o+i*4+1,none⟩=some (.int .i64 k1)/\w'.cell? ⟨b,o+i*4+2,none⟩=some (.int .i64 k2)/\w'.cell? ⟨b,o+i*4+3,none⟩=some (.slice a n cap)/\
    nE w (·<B) l[i] (.agg #[.int .i64 k0,.int .i64 k1,.int .i64 k2,.slice a n cap]):=by
 obtain⟨k0,k1,k2,a',n',cap',g0,g1,g2,g3,g4⟩:=h i hi;exact⟨k0,k1,k2,a',n',cap',(hb.cell (p:=⟨b,o+i*4,none⟩) hbl).trans g0,(hb.cell (p:=⟨b,o+i*4+1,none⟩) hbl).trans g1,(hb.cell (p:=⟨b,o+i*4+2,none⟩) hbl).trans g2,(hb.cell (p:=⟨b,o+i*4+3,none⟩) hbl).trans g3,g4⟩
theorem Tr.OG{tT tS:TypeId}{fs:Array Field}(hT:P.underlying tT=some (.struct fs))(hf:fs.toList.map (·.type)=[ti,ti,ti,tS])(hS:P.underlying tS=some (.slice tT))(hi:P.underlying ti=some (.int .i64)):
  ∀(n:Nat) (x:D),Fits P n tT x->∃t:Tr,x=t.toD:=by
 intro n
 induction n using Nat.strongRecOn with
 |_ n ih=>
  intro x h;obtain⟨m,xs,rfl,rfl,hx⟩:=h.struct hT hf
  match xs,hx with
  |[x0,x1,x2,x3],⟨h0,h1,h2,h3,_⟩=>
   obtain⟨k0,rfl,_⟩:=h0.int hi;obtain⟨k1,rfl,_⟩:=h1.int hi;obtain⟨k2,rfl,_⟩:=h2.int hi;obtain⟨l,rfl⟩:=h3.gL hS (f:=Tr.toD) (fun j y hj hy=>ih j (by omega) y hy);exact⟨.mk k0 k1 k2 l,by rw[Tr.toD,Tr.mO]⟩
end Go.aa
