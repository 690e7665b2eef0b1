/- Joined texts: Data, Read, Own, Types, Tree. -/
import Derived.WalkKit
import Derived.WalkSpells
import Derived.WalkLawsBesides
import Derived.Lib.Hide
import Derived.ProofKit
import Derived.Maps.AppendAt
import Derived.Test.YtncnnbmeacpboaaGreatDoorN02
set_option linter.unusedVariables false
set_option linter.unusedSimpArgs false
/- Go's plain data (numbers, bools, texts, slices, structs) as one Lean type, and what it means that memory holds such a datum; from the model's own reading of an argument to it. No program is named here. -/
namespace Go.Chalk
open Go.RowKit
theorem Lh {p:Prop} (h:p):Hid p:=Lib.hid h
theorem aI {p q:Prop} (h:p) (k:q):p∧q:=⟨h,k⟩
theorem gS {α:Type _} {xs:Array α} {i:Nat} {a:α} (h:xs[i]?=some a):∃ h:i<xs.size,xs[i]=a:=Array.getElem?_eq_some_iff.1 h
inductive D where
 | int (k:IntKind) (n:Int)
 | bool (b:Bool)
 | str (s:ByteArray)
 | sl (xs:List D)
 | st (xs:List D)

def Agree (F:Nat->Prop) (w w':World):Prop:=∀ k,F k->w'.heap[k]?=w.heap[k]?
theorem Agree.refl (F:Nat->Prop) (w:World):Agree F w w:=fun _ _=>rfl
theorem Agree.trans {F:Nat->Prop} {a b c:World} (h:Agree F a b) (k:Agree F b c):Agree F a c:=fun i hi=>(k i hi).trans (h i hi)
theorem Agree.mono {F G:Nat->Prop} {w w':World} (h:Agree G w w') (hFG:∀ k,F k->G k):Agree F w w':=fun k hk=>h k (hFG k hk)
theorem agree_of_below {B:Nat} {w w':World} (h:Below B w w'):Agree (·<B) w w':=fun k hk=>h.block k hk
theorem cell_agree {F:Nat->Prop} {w w':World} (h:Agree F w w') {a:Addr} (ha:F a.block):w'.cell? a=w.cell? a:=World.cell?_of_block (w:=w) (h a.block ha)

def SlAt (F:Nat->Prop) (a:Option Addr) (b o n:Nat):Prop:=0<n->a=some ⟨b,o,none⟩/\F b
theorem SlAt.mono {F G:Nat->Prop} (hFG:∀ k,F k->G k) {a:Option Addr} {b o n:Nat} (h:SlAt F a b o n):SlAt G a b o n:=fun hn=>⟨(h hn).1,hFG _ (h hn).2⟩

def CellsAt (w:World) (b o:Nat) (cs:List Value):Prop:=∀ j (h:j<cs.length),w.cell? ⟨b,o+j,none⟩=some cs[j]
theorem CellsAt.agree {F:Nat->Prop} {w w':World} (h:Agree F w w') {b o:Nat} {cs:List Value} (hb:F b) (hc:CellsAt w b o cs):CellsAt w' b o cs :=
 fun j hj=>(cell_agree h (a:=⟨b,o+j,none⟩) hb).trans (hc j hj)

mutual
/-- How many cells a datum takes. -/
def D.width:D->Nat
 | .st xs=>widths xs
 | _=>1
def widths:List D->Nat
 | []=>0
 | x :: r=>x.width+widths r
end
mutual
/-- The cells cs read as the datum; all further memory lies in blocks of F. -/
def DAt (w:World) (F:Nat->Prop):D->List Value->Prop
 | .int k n,cs=>cs=[.int k n]/\(Lit.int k n).wf=true
 | .bool b,cs=>cs=[.bool b]
 | .str s,cs=>cs=[.string s]/\s.size<=maxLen
 | .sl xs,cs=>∃ a b o cap,cs=[.slice a xs.length cap]/\SlAt F a b o xs.length/\xs.length<=cap/\cap<=maxLen/\RowAt w F xs b o
 | .st xs,cs=>DsAt w F xs cs
/-- The cells cs read as the data, one behind the other. -/
def DsAt (w:World) (F:Nat->Prop):List D->List Value->Prop
 | [],cs=>cs=[]
 | x :: r,cs=>∃ c1 c2,cs=c1++c2/\DAt w F x c1/\DsAt w F r c2
/-- From ⟨b, o⟩ on lie the data, one behind the other. -/
def RowAt (w:World) (F:Nat->Prop):List D->Nat->Nat->Prop
 | [],_,_=>True
 | x :: r,b,o=>(∃ cs,DAt w F x cs/\CellsAt w b o cs)/\RowAt w F r b (o+x.width)
end
mutual
theorem DAt.length {w:World} {F:Nat->Prop}:∀ (x:D) (cs:List Value),DAt w F x cs->cs.length=x.width
 | .int _ _,_,h=>by rw [DAt] at h;simp [h.1,D.width]
 | .bool _,_,h=>by rw [DAt] at h;simp [h,D.width]
 | .str _,_,h=>by rw [DAt] at h;simp [h.1,D.width]
 | .sl _,_,h=>by rw [DAt] at h;obtain ⟨_,_,_,_,rfl,_⟩:=h;simp [D.width]
 | .st xs,cs,h=>by rw [DAt] at h;rw [D.width];exact DsAt.length xs cs h
theorem DsAt.length {w:World} {F:Nat->Prop}:∀ (xs:List D) (cs:List Value),DsAt w F xs cs->cs.length=widths xs
 | [],_,h=>by rw [DsAt] at h;simp [h,widths]
 | x :: r,cs,h=>by
  rw [DsAt] at h;obtain ⟨c1,c2,rfl,h1,h2⟩:=h
  rw [List.length_append,DAt.length x c1 h1,DsAt.length r c2 h2,widths]
end
mutual
theorem DAt.agree {F:Nat->Prop} {w w':World} (h:Agree F w w'):∀ (x:D) (cs:List Value),DAt w F x cs->DAt w' F x cs
 | .int _ _,_,hx=>by rw [DAt] at hx ⊢;exact hx
 | .bool _,_,hx=>by rw [DAt] at hx ⊢;exact hx
 | .str _,_,hx=>by rw [DAt] at hx ⊢;exact hx
 | .sl xs,_,hx=>by
  rw [DAt] at hx ⊢
  obtain ⟨a,b,o,cap,e,hs,h1,h2,hr⟩:=hx
  exact ⟨a,b,o,cap,e,hs,h1,h2,RowAt.agree h xs b o (fun hne=>(hs (by cases xs <;> simp_all)).2) hr⟩
 | .st xs,cs,hx=>by rw [DAt] at hx ⊢;exact DsAt.agree h xs cs hx
theorem DsAt.agree {F:Nat->Prop} {w w':World} (h:Agree F w w'):∀ (xs:List D) (cs:List Value),DsAt w F xs cs->DsAt w' F xs cs
 | [],_,hx=>by rw [DsAt] at hx ⊢;exact hx
 | x :: r,cs,hx=>by
  rw [DsAt] at hx ⊢;obtain ⟨c1,c2,e,h1,h2⟩:=hx
  exact ⟨c1,c2,e,DAt.agree h x c1 h1,DsAt.agree h r c2 h2⟩
theorem RowAt.agree {F:Nat->Prop} {w w':World} (h:Agree F w w'):∀ (xs:List D) (b o:Nat),(xs ≠ []->F b)->RowAt w F xs b o->RowAt w' F xs b o
 | [],_,_,_,_=>by rw [RowAt];trivial
 | x :: r,b,o,hb,hx=>by
  rw [RowAt] at hx ⊢
  obtain ⟨⟨cs,h1,h2⟩,hr⟩:=hx
  exact ⟨⟨cs,DAt.agree h x cs h1,h2.agree h (hb (by simp))⟩,RowAt.agree h r b _ (fun _=>hb (by simp)) hr⟩
end
mutual
theorem DAt.mono {F G:Nat->Prop} (h:∀ k,F k->G k) {w:World}:∀ (x:D) (cs:List Value),DAt w F x cs->DAt w G x cs
 | .int _ _,_,hx=>by rw [DAt] at hx ⊢;exact hx
 | .bool _,_,hx=>by rw [DAt] at hx ⊢;exact hx
 | .str _,_,hx=>by rw [DAt] at hx ⊢;exact hx
 | .sl xs,_,hx=>by
  rw [DAt] at hx ⊢
  obtain ⟨a,b,o,cap,e,hs,h1,h2,hr⟩:=hx
  exact ⟨a,b,o,cap,e,hs.mono h,h1,h2,RowAt.mono h xs b o hr⟩
 | .st xs,cs,hx=>by rw [DAt] at hx ⊢;exact DsAt.mono h xs cs hx
theorem DsAt.mono {F G:Nat->Prop} (h:∀ k,F k->G k) {w:World}:∀ (xs:List D) (cs:List Value),DsAt w F xs cs->DsAt w G xs cs
 | [],_,hx=>by rw [DsAt] at hx ⊢;exact hx
 | x :: r,cs,hx=>by
  rw [DsAt] at hx ⊢;obtain ⟨c1,c2,e,h1,h2⟩:=hx
  exact ⟨c1,c2,e,DAt.mono h x c1 h1,DsAt.mono h r c2 h2⟩
theorem RowAt.mono {F G:Nat->Prop} (h:∀ k,F k->G k) {w:World}:∀ (xs:List D) (b o:Nat),RowAt w F xs b o->RowAt w G xs b o
 | [],_,_,_=>by rw [RowAt];trivial
 | x :: r,b,o,hx=>by
  rw [RowAt] at hx ⊢
  obtain ⟨⟨cs,h1,h2⟩,hr⟩:=hx
  exact ⟨⟨cs,DAt.mono h x cs h1,h2⟩,RowAt.mono h r b _ hr⟩
end
theorem RowAt.get {w:World} {F:Nat->Prop} {sz:Nat}:∀ {xs:List D} {b o:Nat},RowAt w F xs b o->(∀ x∈xs,x.width=sz)->∀ (i:Nat) (h:i<xs.length),∃ cs,DAt w F xs[i] cs/\CellsAt w b (o+i*sz) cs
 | x :: r,b,o,h,_,0,_=>by rw [RowAt] at h;simpa using h.1
 | x :: r,b,o,h,hw,i+1,hi=>by
  rw [RowAt] at h
  obtain ⟨cs,h1,h2⟩:=RowAt.get h.2 (fun y hy=>hw y (by simp [hy])) i (by simpa using hi)
  refine ⟨cs,by simpa using h1,?_⟩
  rw [hw x (by simp)] at h2
  rwa [show o+(i+1)*sz=o+sz+i*sz from by rw [Nat.add_mul];omega]

theorem RowAt.mk {w:World} {F:Nat->Prop}:∀ {xs:List D} {b o:Nat} {cs:List Value},DsAt w F xs cs->CellsAt w b o cs->RowAt w F xs b o
 | [],_,_,_,_,_=>by rw [RowAt];trivial
 | x :: r,b,o,cs,h,hc=>by
  rw [DsAt] at h;obtain ⟨c1,c2,rfl,h1,h2⟩:=h
  rw [RowAt]
  refine ⟨⟨c1,h1,fun j hj=>?_⟩,RowAt.mk h2 (fun j hj=>?_)⟩
  ·have:=hc j (by simp;omega)
   rwa [List.getElem_append_left hj] at this
  ·have:=hc (c1.length+j) (by simp;omega)
   rw [List.getElem_append_right (by omega)] at this
   simpa [DAt.length x c1 h1,Nat.add_assoc] using this

theorem DsAt.append {w:World} {F:Nat->Prop}:∀ {xs ys:List D} {cs ds:List Value},DsAt w F xs cs->DsAt w F ys ds->DsAt w F (xs++ys) (cs++ds)
 | [],_,_,_,h,k=>by rw [DsAt] at h;subst h;simpa using k
 | x :: r,ys,cs,ds,h,k=>by
  rw [DsAt] at h;obtain ⟨c1,c2,rfl,h1,h2⟩:=h
  rw [List.cons_append,DsAt]
  exact ⟨c1,c2++ds,by simp,h1,DsAt.append h2 k⟩

mutual
/-- How many values and letters a datum holds. -/
def D.bulk:D->Nat
 | .str s=>s.size+1
 | .sl xs=>bulks xs+1
 | .st xs=>bulks xs+1
 | _=>1
def bulks:List D->Nat
 | []=>0
 | x :: r=>x.bulk+bulks r
end
theorem bulk_pos (x:D):1<=x.bulk:=by cases x <;> simp [D.bulk]
theorem bulk_le {x:D}:∀ {l:List D},x∈l->x.bulk<=bulks l
 | y :: r,h=>by
  rw [bulks]
  cases List.mem_cons.1 h with
  | inl e=>subst e;omega
  | inr e=>have:=bulk_le e;omega
theorem length_le_bulks:∀ l:List D,l.length<=bulks l
 | []=>by simp [bulks]
 | x :: r=>by have:=length_le_bulks r;have:=bulk_pos x;simp [bulks];omega

theorem DAt.slice {w:World} {F:Nat->Prop} {xs:List D} {b o cap:Nat} {a:Option Addr} (hs:SlAt F a b o xs.length) (h1:xs.length<=cap) (h2:cap<=maxLen) (h:RowAt w F xs b o):DAt w F (.sl xs) [.slice a xs.length cap]:=by
 rw [DAt];exact ⟨a,b,o,cap,rfl,hs,h1,h2,h⟩

theorem boxed {w w1:World} {o:Obj} {B:Nat} (hb:Below B (w.alloc o) w1) (hB:w.heap.size<B):w1.heap[w.heap.size]?=some o:=by
 rw [hb.block _ hB];show (w.heap.push o)[w.heap.size]?=some o;simp
theorem cH {w:World} {b i:Nat} {cs:Array Value} {t:TypeId} {fz:Nat×Nat} (h:w.heap[b]?=some (.cells cs t fz)) {v:Value} (hv:cs[i]?=some v):w.cell? ⟨b,i,none⟩=some v:=by
 simp [World.cell?,h,hv]
theorem Below.ahead {w w1:World} {o:Obj} {B:Nat} (hb:Below B (w.alloc o) w1) (hB:w.heap.size<=B):Below w.heap.size w w1:=((Below.refl _ w).alloc (Nat.le_refl _) o).trans (hb.mono hB)

end Go.Chalk
/- From the model's own reading of an argument ('DataW.trod') to the data of Data.lean, for types made of numbers, bools, texts, slices and structs. -/
namespace Go.Chalk
open Go.RowKit
mutual
def D.of {H:Type}:DataW H->D
 | .lit (.int k n)=>.int k n
 | .lit (.bool b)=>.bool b
 | .lit (.string bs)=>.str ⟨bs.toArray⟩
 | .lit _=>.bool false
 | .nil=>.sl []
 | .slice es _=>.sl (D.ofAll es)
 | .agg ps=>.st (D.ofAll ps)
 | _=>.bool false
def D.ofAll {H:Type}:List (DataW H)->List D
 | []=>[]
 | d :: r=>D.of d :: D.ofAll r
end
theorem D.ofAll_eq {H:Type}:∀ l:List (DataW H),D.ofAll l=l.map D.of
 | []=>rfl
 | d :: r=>by rw [D.ofAll,D.ofAll_eq r];rfl

def tiles (P:Program):List Field->Nat->Nat->Bool
 | [],o,n=>o==n
 | f :: r,o,n=>f.offset==o&&tiles P r (o+P.cellsOf f.type) n

def plainType (P:Program) (T:List TypeId) (t:TypeId):Bool :=
 match P.underlying t with
 | some .bool | some (.int _) | some .string=>P.cellsOf t==1
 | some (.slice e)=>T.contains e&&P.cellsOf t==1&&decide (0<P.cellsOf e)
 | some (.struct fs)=>fs.toList.all (fun f=>T.contains f.type)&&tiles P fs.toList 0 (P.cellsOf t)
 | _=>false
def plainTypes (P:Program) (T:List TypeId):Bool:=T.all (plainType P T)

def Fits (P:Program):Nat->TypeId->D->Prop
 | 0,_,_=>False
 | n+1,t,x =>
  match P.underlying t with
  | some .bool=>∃ b,x=.bool b
  | some (.int k)=>∃ m,x=.int k m/\(Lit.int k m).wf=true
  | some .string=>∃ s,x=.str s/\s.size<=maxLen
  | some (.slice e)=>∃ xs,x=.sl xs/\∀ y∈xs,Fits P n e y
  | some (.struct fs)=>∃ xs,x=.st xs/\xs.length=fs.toList.length/\∀ (i:Nat) (f:Field) (y:D),fs.toList[i]?=some f->xs[i]?=some y->Fits P n f.type y
  | _=>False

theorem mapM_some {α β:Type} {f:α->Option β}:∀ {l:List α} {r:List β},l.mapM f=some r->r.length=l.length/\∀ (i:Nat) (a:α) (b:β),l[i]?=some a->r[i]?=some b->f a=some b
 | [],r,h=>by simp at h;subst h;simp
 | x :: l,r,h=>by
  simp only [List.mapM_cons,Option.bind_eq_bind,Option.bind_eq_some_iff] at h
  obtain ⟨y,hy,ys,hys,hr⟩:=h
  simp at hr;subst hr
  obtain ⟨h1,h2⟩:=mapM_some hys
  refine ⟨by simp [h1],fun i a b ha hb=>?_⟩
  cases i with
  | zero=>simp at ha hb;subst ha hb;exact hy
  | succ i=>exact h2 i a b (by simpa using ha) (by simpa using hb)

theorem spot_of_cell {w:World} {a:Addr} {v:Value} (h:w.cell? a=some v):a.spot=none:=by
 unfold World.cell? at h
 split at h
 ·split at h
  ·cases h
  ·cases hs:a.spot <;> simp_all
 ·cases h

theorem cells?_at {w:World} {a:Addr} {n:Nat} {cs:List Value} (h:w.cells? 0 a n=some cs):cs.length=n/\(0<n->a.block<w.heap.size)/\∀ j (hj:j<cs.length),w.cell? (a.add j)=some cs[j]:=by
 unfold World.cells? at h
 rw [if_pos (Nat.zero_le _)] at h
 obtain ⟨h1,h2⟩:=mapM_some h
 have hc:∀ j (hj:j<cs.length),w.cell? (a.add j)=some cs[j]:=fun j hj=>h2 j j cs[j] (by rw [h1,List.length_range] at hj;simp [hj]) (by simp [hj])
 refine ⟨by simpa using h1,fun hn=>?_,hc⟩
 have h0:=hc 0 (by simp at h1;omega)
 unfold Addr.add at h0
 rw [if_pos rfl] at h0
 unfold World.cell? at h0
 split at h0
 ·rename_i hb;exact (gS hb).1
 ·cases h0

theorem add_add (a:Addr) (i j:Nat) (hs:a.spot=none):(a.add i).add j=⟨a.block,a.off+i+j,none⟩:=by
 cases a with | mk b o s=>?_
 simp at hs;subst hs
 unfold Addr.add
 by_cases hi:i=0 <;> by_cases hj:j=0 <;> simp [hi,hj]

theorem row_of {w:World} {F:Nat->Prop} {sz:Nat} {b:Nat}:∀ (xs:List D) (o:Nat),(∀ (i:Nat) (x:D),xs[i]?=some x->x.width=sz/\∃ cs,DAt w F x cs/\CellsAt w b (o+i*sz) cs)->RowAt w F xs b o
 | [],_,_=>by rw [RowAt];trivial
 | x :: r,o,h=>by
  rw [RowAt]
  obtain ⟨h0,h1⟩:=h 0 x (by simp)
  refine ⟨by simpa using h1,row_of (sz:=sz) r _ (fun i y hy=>?_)⟩
  obtain ⟨k0,cs,k1,k2⟩:=h (i+1) y (by simpa using hy)
  refine ⟨k0,cs,k1,?_⟩
  rw [h0]
  rwa [show o+(i+1)*sz=o+sz+i*sz from by rw [Nat.add_mul];omega] at k2

theorem tiles_ds {P:Program} {w:World} {F:Nat->Prop}:∀ (fs:List Field) (xs:List D) (o n:Nat) (cs:List Value),tiles P fs o n=true->cs.length=n->o<=n->xs.length=fs.length ->
  (∀ (i:Nat) (f:Field) (x:D),fs[i]?=some f->xs[i]?=some x->DAt w F x ((cs.drop f.offset).take (P.cellsOf f.type))/\((cs.drop f.offset).take (P.cellsOf f.type)).length=P.cellsOf f.type)->DsAt w F xs (cs.drop o)
 | [],[],o,n,cs,ht,hl,_,_,_=>by
  simp [tiles] at ht;subst ht;rw [DsAt];simp;omega
 | [],x :: r,_,_,_,_,_,_,h,_=>by simp at h
 | f :: fs,[],_,_,_,_,_,_,h,_=>by simp at h
 | f :: fs,x :: xs,o,n,cs,ht,hl,ho,hx,h=>by
  simp [tiles] at ht
  obtain ⟨ho',ht⟩:=ht
  obtain ⟨h0,h1⟩:=h 0 f x (by simp) (by simp)
  rw [ho'] at h0 h1
  rw [DsAt]
  have hle:o+P.cellsOf f.type<=n:=by
   rw [List.length_take,List.length_drop] at h1;omega
  refine ⟨_,_,(List.take_append_drop (P.cellsOf f.type) (cs.drop o)).symm,h0,?_⟩
  rw [List.drop_drop]
  exact tiles_ds fs xs _ n cs ht hl hle (by simpa using hx) (fun i g y hg hy=>h (i+1) g y (by simpa using hg) (by simpa using hy))

theorem bytes_eq (s:ByteArray):(⟨s.data.toList.toArray⟩:ByteArray)=s:=by cases s;simp

theorem trod_at {H:Type} {enc:TypeId×Value->H} {P:Program} {w:World} {spare:Nat->Bool} {held:Bool} {T:List TypeId} (hT:plainTypes P T=true) :
  ∀ (fuel:Nat) (t:TypeId) (cs:List Value) (d:DataW H) (p:List MemPlace),t∈T->DataW.trod enc P w 0 spare held fuel t cs=some (d,p) ->
   DAt w (·<w.heap.size) (D.of d) cs/\Fits P fuel t (D.of d)/\cs.length=P.cellsOf t
 | 0,_,_,_,_,_,h=>by simp [DataW.trod] at h
 | fuel+1,t,cs,d,p,ht,h=>by
  have hp:plainType P T t=true:=List.all_eq_true.1 hT t ht
  unfold plainType at hp
  rw [DataW.trod.eq_def] at h
  rw [Fits]
  simp only at h
  cases hu:P.underlying t with
  | none=>rw [hu] at hp;cases hp
  | some u =>
   rw [hu] at hp h
   cases u with
   | bool =>
    simp at hp
    split at h <;> try (simp_all;done)
    simp at h;obtain ⟨rfl,rfl⟩:=h
    exact ⟨by simp [D.of,DAt],⟨_,by rw [D.of]⟩,by simp [hp]⟩
   | int k =>
    simp at hp
    split at h <;> try (simp_all;done)
    rename_i k' k'' n hk
    split at h <;> try (simp_all;done)
    rename_i hw
    simp at h;obtain ⟨rfl,rfl⟩:=h
    simp at hk;subst hk
    obtain ⟨rfl,hw⟩:=hw
    exact ⟨by rw [D.of,DAt];exact ⟨rfl,hw⟩,⟨_,by rw [D.of],hw⟩,by simp [hp]⟩
   | string =>
    simp at hp
    split at h <;> try (simp_all;done)
    split at h <;> try (simp_all;done)
    rename_i hw
    simp at h;obtain ⟨rfl,rfl⟩:=h
    exact ⟨by rw [D.of,DAt,bytes_eq];exact ⟨rfl,hw⟩,⟨_,by rw [D.of,bytes_eq],hw⟩,by simp [hp]⟩
   | slice e =>
    simp at hp
    split at h <;> try (simp_all;done)
    ·simp at h;obtain ⟨rfl,rfl⟩:=h
     refine ⟨?_,⟨[],by rw [D.of],by simp⟩,by simp [hp]⟩
     rw [D.of]
     exact DAt.slice (xs:=[]) (b:=0) (o:=0) (a:=none) (fun h=>by simp at h) (Nat.le_refl _) (Nat.zero_le _) (by rw [RowAt];trivial)
    ·rename_i e' a len cap hk
     simp at hk;subst hk
     split at h <;> try (simp_all;done)
     rename_i hc
     simp only [Option.bind_eq_some_iff,Option.map_eq_some_iff,Prod.mk.injEq] at h
     obtain ⟨elems,he,rest,_,rfl,rfl⟩:=h
     obtain ⟨hl,hi⟩:=mapM_some he
     have key:∀ (i:Nat) (y:DataW H×List MemPlace),elems[i]?=some y->∃ cs,w.cells? 0 (a.add (i*P.cellsOf e)) (P.cellsOf e)=some cs/\DAt w (·<w.heap.size) (D.of y.1) cs/\Fits P fuel e (D.of y.1)/\cs.length=P.cellsOf e:=by
      intro i y hy
      have hil:i<len:=by have:=(List.getElem?_eq_some_iff.1 hy).1;simp at hl;omega
      have:=hi i i y (by simp [hil]) hy
      simp only [Option.bind_eq_some_iff] at this
      obtain ⟨cs,h1,h2⟩:=this
      obtain ⟨g1,g2,g3⟩:=trod_at hT fuel e cs y.1 y.2 (by simpa using hp.1.1) (by rw [h2])
      exact ⟨cs,h1,g1,g2,g3⟩
     have hlen:(D.ofAll (elems.map (·.1))).length=len:=by rw [D.ofAll_eq];simp at hl;simp [hl]
     have hget:∀ (i:Nat) (x:D),(D.ofAll (elems.map (·.1)))[i]?=some x->∃ y,elems[i]?=some y/\x=D.of y.1:=by
      intro i x hx
      rw [D.ofAll_eq] at hx
      simp only [List.getElem?_map,Option.map_eq_some_iff] at hx
      obtain ⟨z,⟨y,hy,rfl⟩,rfl⟩:=hx
      exact ⟨y,hy,rfl⟩
     refine ⟨?_,⟨D.ofAll (elems.map (·.1)),by rw [D.of],?_⟩,by simp [hp.1.2]⟩
     ·rw [D.of]
      have hw1:∀ (i:Nat) (x:D),(D.ofAll (elems.map (·.1)))[i]?=some x->x.width=P.cellsOf e:=by
       intro i x hx
       obtain ⟨y,hy,rfl⟩:=hget i x hx
       obtain ⟨cs,_,g1,_,g3⟩:=key i y hy
       rw [<- DAt.length _ _ g1,g3]
      have hsp:0<len->a.spot=none/\a.block<w.heap.size:=by
       intro h0
       obtain ⟨y,hy⟩:∃ y,elems[0]?=some y:=by
        simp at hl;exact ⟨elems[0],by simp⟩
       obtain ⟨cs,g0,g1,_,g3⟩:=key 0 y hy
       obtain ⟨c1,c2,c3⟩:=cells?_at g0
       have c4:=c3 0 (by omega)
       simp [Addr.add] at c4 c2
       exact ⟨spot_of_cell c4,c2 hp.2⟩
      rw [show len=(D.ofAll (elems.map (·.1))).length from hlen.symm]
      refine DAt.slice (b:=a.block) (o:=a.off) (fun h0=>?_) (by rw [hlen];exact hc.2.1) hc.2.2 (row_of (sz:=P.cellsOf e) _ _ (fun i x hx=>⟨hw1 i x hx,?_⟩))
      ·obtain ⟨s1,s2⟩:=hsp (by rw [hlen] at h0;exact h0)
       refine ⟨?_,s2⟩
       cases a;simp at s1;subst s1;rfl
      ·obtain ⟨y,hy,rfl⟩:=hget i x hx
       obtain ⟨cs,g0,g1,_,g3⟩:=key i y hy
       obtain ⟨c1,c2,c3⟩:=cells?_at g0
       have hil:i<len:=by have:=(List.getElem?_eq_some_iff.1 hy).1;simp at hl;omega
       refine ⟨cs,g1,fun j hj=>?_⟩
       have:=c3 j hj
       rwa [add_add _ _ _ (hsp (by omega)).1] at this
     ·intro x hx
      obtain ⟨i,hi2⟩:=List.mem_iff_getElem?.1 hx
      obtain ⟨y,hy,rfl⟩:=hget i x hi2
      obtain ⟨cs,_,_,g2,_⟩:=key i y hy
      exact g2
   | struct fs =>
    simp at hp
    change (if cs.length=P.cellsOf t then (fs.toList.mapM fun f=>DataW.trod enc P w 0 spare held fuel f.type ((cs.drop f.offset).take (P.cellsOf f.type))).map fun xs=>(DataW.agg (xs.map (·.1)),xs.flatMap (·.2)) else none)=some (d,p) at h
    by_cases hc:cs.length=P.cellsOf t
    rotate_left
    ·rw [if_neg hc] at h;cases h
    rw [if_pos hc] at h
    simp only [Option.map_eq_some_iff,Prod.mk.injEq] at h
    obtain ⟨ys,he,rfl,rfl⟩:=h
    obtain ⟨hl,hi⟩:=mapM_some he
    have hget:∀ (i:Nat) (x:D),(D.ofAll (ys.map (·.1)))[i]?=some x->∃ y,ys[i]?=some y/\x=D.of y.1:=by
     intro i x hx
     rw [D.ofAll_eq] at hx
     simp only [List.getElem?_map,Option.map_eq_some_iff] at hx
     obtain ⟨z,⟨y,hy,rfl⟩,rfl⟩:=hx
     exact ⟨y,hy,rfl⟩
    have hlen:(D.ofAll (ys.map (·.1))).length=fs.toList.length:=by rw [D.ofAll_eq];simp [hl]
    have key:∀ (i:Nat) (f:Field) (x:D),fs.toList[i]?=some f->(D.ofAll (ys.map (·.1)))[i]?=some x ->
      DAt w (·<w.heap.size) x ((cs.drop f.offset).take (P.cellsOf f.type))/\Fits P fuel f.type x/\((cs.drop f.offset).take (P.cellsOf f.type)).length=P.cellsOf f.type:=by
     intro i f x hf hx
     obtain ⟨y,hy,rfl⟩:=hget i x hx
     have h2:=hi i f y hf hy
     have hm:f∈fs.toList:=List.mem_of_getElem? hf
     exact trod_at hT fuel f.type _ y.1 y.2 (by obtain ⟨k,hk,rfl⟩:=List.mem_iff_getElem.1 hm;simpa using hp.1 k (by simpa using hk)) (by rw [h2])
    refine ⟨?_,⟨D.ofAll (ys.map (·.1)),by rw [D.of],hlen,fun i f x hf hx=>(key i f x hf hx).2.1⟩,hc⟩
    rw [D.of,DAt]
    have:=tiles_ds (P:=P) (w:=w) (F:=(·<w.heap.size)) fs.toList (D.ofAll (ys.map (·.1))) 0 (P.cellsOf t) cs hp.2 hc (Nat.zero_le _) hlen (fun i f x hf hx=>⟨(key i f x hf hx).1,(key i f x hf hx).2.2⟩)
    simpa using this
   | _=>simp at hp

def FitsAll (P:Program) (n:Nat):List TypeId->List D->Prop
 | [],[]=>True
 | t :: ts,x :: xs=>Fits P n t x/\FitsAll P n ts xs
 | _,_=>False

theorem fitsAll_of {P:Program} {n:Nat}:∀ (fs:List Field) (xs:List D),xs.length=fs.length->(∀ (i:Nat) (f:Field) (y:D),fs[i]?=some f->xs[i]?=some y->Fits P n f.type y)->FitsAll P n (fs.map (·.type)) xs
 | [],[],_,_=>trivial
 | [],_ :: _,h,_=>by simp at h
 | _ :: _,[],h,_=>by simp at h
 | f :: fs,x :: xs,hl,h=>⟨h 0 f x rfl rfl,fitsAll_of fs xs (by simpa using hl) (fun i g y hg hy=>h (i+1) g y (by simpa using hg) (by simpa using hy))⟩

theorem Fits.struct {P:Program} {n:Nat} {t:TypeId} {x:D} {fs:Array Field} {ts:List TypeId} (hu:P.underlying t=some (.struct fs)) (hts:fs.toList.map (·.type)=ts) (h:Fits P n t x) :
  ∃ m xs,n=m+1/\x=.st xs/\FitsAll P m ts xs:=by
 cases n with
 | zero=>exact h.elim
 | succ n =>
  rw [Fits,hu] at h
  obtain ⟨xs,rfl,hl,hx⟩:=h
  exact ⟨n,xs,rfl,rfl,by rw [<- hts];exact fitsAll_of _ _ hl hx⟩
theorem Fits.slice {P:Program} {n:Nat} {t e:TypeId} {x:D} (hu:P.underlying t=some (.slice e)) (h:Fits P n t x):∃ m xs,n=m+1/\x=.sl xs/\∀ y∈xs,Fits P m e y:=by
 cases n with
 | zero=>exact h.elim
 | succ n =>
  rw [Fits,hu] at h
  obtain ⟨xs,rfl,hx⟩:=h
  exact ⟨n,xs,rfl,rfl,hx⟩
theorem Fits.int {P:Program} {n:Nat} {t:TypeId} {x:D} {k:IntKind} (hu:P.underlying t=some (.int k)) (h:Fits P n t x):∃ m,x=.int k m/\(Lit.int k m).wf=true:=by
 cases n with
 | zero=>exact h.elim
 | succ n=>rw [Fits,hu] at h;exact h
theorem Fits.bool {P:Program} {n:Nat} {t:TypeId} {x:D} (hu:P.underlying t=some .bool) (h:Fits P n t x):∃ b,x=.bool b:=by
 cases n with
 | zero=>exact h.elim
 | succ n=>rw [Fits,hu] at h;exact h
theorem Fits.str {P:Program} {n:Nat} {t:TypeId} {x:D} (hu:P.underlying t=some .string) (h:Fits P n t x):∃ s,x=.str s/\s.size<=maxLen:=by
 cases n with
 | zero=>exact h.elim
 | succ n=>rw [Fits,hu] at h;exact h

theorem list_of {α:Type} {f:α->D}:∀ {xs:List D},(∀ y∈xs,∃ a,y=f a)->∃ l:List α,xs=l.map f
 | [],_=>⟨[],rfl⟩
 | x :: r,h=>by
  obtain ⟨a,rfl⟩:=h x (by simp)
  obtain ⟨l,rfl⟩:=list_of (xs:=r) (f:=f) (fun y hy=>h y (by simp [hy]))
  exact ⟨a :: l,rfl⟩

theorem Fits.slice_of {α:Type} {f:α->D} {P:Program} {n:Nat} {t e:TypeId} {x:D} (hu:P.underlying t=some (.slice e)) (h:Fits P n t x) (he:∀ m y,m<n->Fits P m e y->∃ a,y=f a):∃ l:List α,x=.sl (l.map f):=by
 obtain ⟨m,xs,rfl,rfl,hx⟩:=h.slice hu
 obtain ⟨l,rfl⟩:=list_of (f:=f) (fun y hy=>he m y (by omega) (hx y hy))
 exact ⟨l,rfl⟩

theorem wf_i64 {n:Int} (h:(Lit.int .i64 n).wf=true) : -9223372036854775808<=n/\n<=9223372036854775807:=by
 have:IntKind.i64.min = -9223372036854775808:=by decide
 simpa [Lit.wf,this] using h

end Go.Chalk
/- Slices of the call's own, as data; what a call may have turned; the program's constraints ('Lin') as Lean data. -/
namespace Go.Chalk
open Go.RowKit
structure Mod (S:Nat->Prop) (w w':World):Prop where
 os:w'.os=w.os
 tape:w'.tape=w.tape
 output:w'.output=w.output
 size:w.heap.size<=w'.heap.size
 block:∀ k,k<w.heap.size->¬ S k->w'.heap[k]?=w.heap[k]?

theorem Mod.refl (S:Nat->Prop) (w:World):Mod S w w:=⟨rfl,rfl,rfl,Nat.le_refl _,fun _ _ _=>rfl⟩
theorem Mod.trans {S T:Nat->Prop} {a b c:World} (h:Mod S a b) (k:Mod T b c) (hT:∀ i,i<a.heap.size->T i->S i):Mod S a c :=
 ⟨k.os.trans h.os,k.tape.trans h.tape,k.output.trans h.output,Nat.le_trans h.size k.size,
  fun i hi hs=>(k.block i (Nat.lt_of_lt_of_le hi h.size) (fun ht=>hs (hT i hi ht))).trans (h.block i hi hs)⟩
theorem Mod.mono {S T:Nat->Prop} {a b:World} (h:Mod S a b) (hT:∀ i,S i->T i):Mod T a b :=
 ⟨h.os,h.tape,h.output,h.size,fun i hi hs=>h.block i hi (fun ht=>hs (hT i ht))⟩
theorem Mod.of_below {S:Nat->Prop} {w w':World} (h:Below w.heap.size w w'):Mod S w w':=⟨h.os,h.tape,h.output,h.size,fun k hk _=>h.block k hk⟩
theorem Mod.of_grown {S:Nat->Prop} {w w':World} {r:Option Nat} (h:w.grownBy w' r) (hr:∀ k,r=some k->S k):Mod S w w' :=
 ⟨h.os,h.tape,h.output,h.size,fun k hk hs=>h.block k hk (fun e=>hs (hr k e.symm))⟩
theorem Mod.below {S:Nat->Prop} {w w':World} {B:Nat} (h:Mod S w w') (hB:B<=w.heap.size) (hS:∀ k,S k->B<=k):Below B w w' :=
 ⟨h.os,h.tape,h.output,h.size,fun k hk=>h.block k (by omega) (fun hs=>by have:=hS k hs;omega)⟩
theorem Mod.setCell {S:Nat->Prop} {a w:World} (h:Mod S a w) {p:Addr} (hp:p.block<a.heap.size->S p.block) (u:Value):Mod S a (w.setCell p u) :=
 h.trans (T:=fun k=>k=p.block) ⟨rfl,rfl,rfl,by simp [World.setCell],fun k _ hk=>Below.heap_setCell _ _ _ _ hk⟩ (fun i hi e=>by subst e;exact hp hi)
theorem Mod.alloc {S:Nat->Prop} {a w:World} (h:Mod S a w) (o:Obj):Mod S a (w.alloc o) :=
 h.trans (T:=fun _=>False) ⟨rfl,rfl,rfl,by simp,fun k hk _=>Below.heap_alloc _ _ _ hk⟩ (fun _ _ e=>e.elim)
theorem Mod.drew {S:Nat->Prop} {a w:World} (h:Mod S a w):Mod S a w.drew:=⟨h.os,h.tape,h.output,h.size,h.block⟩
theorem Mod.agree {S F:Nat->Prop} {w w':World} (h:Mod S w w') (hF:∀ k,F k->k<w.heap.size/\¬ S k):Agree F w w':=fun k hk=>h.block k (hF k hk).1 (hF k hk).2

theorem RowAt.cells {w:World} {F:Nat->Prop}:∀ {xs:List D} {b o:Nat},RowAt w F xs b o->∃ cs,DsAt w F xs cs/\CellsAt w b o cs
 | [],_,_,_=>⟨[],by rw [DsAt],fun j hj=>by simp at hj⟩
 | x :: r,b,o,h=>by
  rw [RowAt] at h
  obtain ⟨⟨c1,h1,h2⟩,hr⟩:=h
  obtain ⟨c2,h3,h4⟩:=hr.cells
  refine ⟨c1++c2,by rw [DsAt];exact ⟨c1,c2,rfl,h1,h3⟩,fun j hj=>?_⟩
  by_cases hlt:j<c1.length
  ·rw [List.getElem_append_left hlt];exact h2 j hlt
  ·rw [List.getElem_append_right (by omega)]
   have:=h4 (j - c1.length) (by simp at hj;omega)
   have hw:=DAt.length x c1 h1
   rwa [show o+x.width+(j - c1.length)=o+j from by omega] at this
mutual
theorem DAt.one {w:World} {F:Nat->Prop}:∀ (x:D) (cs:List Value),DAt w F x cs->∀ u∈cs,u.oneCell'=true
 | .int _ _,_,h=>by rw [DAt] at h;obtain ⟨rfl,_⟩:=h;simp [Value.oneCell']
 | .bool _,_,h=>by rw [DAt] at h;subst h;simp [Value.oneCell']
 | .str _,_,h=>by rw [DAt] at h;obtain ⟨rfl,_⟩:=h;simp [Value.oneCell']
 | .sl _,_,h=>by rw [DAt] at h;obtain ⟨_,_,_,_,rfl,_⟩:=h;simp [Value.oneCell']
 | .st xs,cs,h=>by rw [DAt] at h;exact DsAt.one xs cs h
theorem DsAt.one {w:World} {F:Nat->Prop}:∀ (xs:List D) (cs:List Value),DsAt w F xs cs->∀ u∈cs,u.oneCell'=true
 | [],_,h=>by rw [DsAt] at h;subst h;simp
 | x :: r,cs,h=>by
  rw [DsAt] at h;obtain ⟨c1,c2,rfl,h1,h2⟩:=h
  intro u hu
  rcases List.mem_append.1 hu with hu | hu
  ·exact DAt.one x c1 h1 u hu
  ·exact DsAt.one r c2 h2 u hu
end
theorem DAt.source {w:World} {F:Nat->Prop} {xs:List D} {v:Value} (h:DAt w F (.sl xs) [v]) (hn:0<xs.length) :
  ∃ b o cap cs,v=.slice (some ⟨b,o,none⟩) xs.length cap/\DsAt w F xs cs/\(∀ j u,cs[j]?=some u->w.cell? ((⟨b,o,none⟩:Addr).add j)=some u)/\(∀ u∈cs,u.oneCell'=true)/\F b:=by
 rw [DAt] at h
 obtain ⟨a,b,o,cap,e,hs,_,_,hr⟩:=h
 obtain ⟨rfl,hb⟩:=hs hn
 obtain ⟨cs,h1,h2⟩:=hr.cells
 simp only [List.cons.injEq,and_true] at e
 refine ⟨b,o,cap,cs,e,h1,fun j u hu=>?_,DsAt.one _ _ h1,hb⟩
 obtain ⟨hj,rfl⟩:=List.getElem?_eq_some_iff.1 hu
 have:=h2 j hj
 unfold Addr.add
 by_cases h0:j=0
 ·subst h0;simpa using this
 ·rw [if_neg h0];exact this

structure Own (w:World) (F:Nat->Prop) (e:TypeId) (sz:Nat) (v:Value) (r:Option Nat) (xs:List D):Prop where
 cells:∃ cs,w.ownsRow 0 e sz v xs.length cs/\DsAt w F xs cs
 row:v.ownBlock=r
 off:∀ k,r=some k->¬ F k
 lt:∀ k,F k->k<w.heap.size

theorem Own.nil (w:World) (F:Nat->Prop) (e:TypeId) (sz:Nat) (lt:∀ k,F k->k<w.heap.size):Own w F e sz (.slice none 0 0) none [] :=
 ⟨⟨[],World.ownsRow_nil w 0 e sz,by rw [DsAt]⟩,rfl,fun _ h=>(by cases h),lt⟩

theorem Own.row_lt {w:World} {F:Nat->Prop} {e:TypeId} {sz:Nat} {v:Value} {r:Option Nat} {xs:List D} (h:Own w F e sz v r xs) {k:Nat} (hr:r=some k):k<w.heap.size:=by
 obtain ⟨cs,h1,_⟩:=h.cells
 exact (h1.lt k (h.row.trans hr)).2

theorem Own.kept {w w':World} {F:Nat->Prop} {e:TypeId} {sz:Nat} {v:Value} {r:Option Nat} {xs:List D} (h:Own w F e sz v r xs) {S:Nat->Prop} (hm:Mod S w w') (hF:∀ k,F k->¬ S k) (hr:∀ k,r=some k->¬ S k):Own w' F e sz v r xs:=by
 obtain ⟨cs,⟨h1,h2⟩,h3⟩:=h.cells
 refine ⟨⟨cs,⟨h1,?_⟩,DsAt.agree (hm.agree (fun k hk=>⟨h.lt k hk,hF k hk⟩)) _ _ h3⟩,h.row,h.off,fun k hk=>Nat.lt_of_lt_of_le (h.lt k hk) hm.size⟩
 rcases h2 with h2 | ⟨g,cap,cur,hv,hg,hh,rest⟩
 ·exact .inl h2
 ·have hrow:r=some g:=by rw [<- h.row,hv];rfl
  refine .inr ⟨g,cap,cur,hv,hg,?_,rest⟩
  rw [hm.block g (h.row_lt hrow) (hr g hrow)];exact hh

theorem Own.widen {w:World} {F G:Nat->Prop} {e:TypeId} {sz:Nat} {v:Value} {r:Option Nat} {xs:List D} (h:Own w F e sz v r xs) (hFG:∀ k,F k->G k) (hr:∀ k,r=some k->¬ G k) (hlt:∀ k,G k->k<w.heap.size):Own w G e sz v r xs:=by
 obtain ⟨cs,h1,h2⟩:=h.cells
 exact ⟨⟨cs,h1,DsAt.mono hFG _ _ h2⟩,h.row,hr,hlt⟩

theorem Own.appended {w w':World} {F:Nat->Prop} {e:TypeId} {sz:Nat} {v v':Value} {r:Option Nat} {xs ys:List D} {cs news:List Value} (h:Own w F e sz v r xs) (hcs:DsAt w F xs cs)
  (h1:w'.ownsRow 0 e sz v' (xs.length+ys.length) (cs++news)) (hg:w.grownBy w' v.ownBlock) (hat:v'.ownBlock=v.ownBlock∨v'.ownBlock=some w.heap.size) (hn:DsAt w F ys news) :
  Own w' F e sz v' v'.ownBlock (xs++ys)/\Mod (fun k=>r=some k) w w'/\(v'.ownBlock=r∨v'.ownBlock=some w.heap.size):=by
 have hm:Mod (fun k=>r=some k) w w':=Mod.of_grown hg (fun k hk=>by rw [<- h.row];exact hk)
 have ha:Agree F w w':=hm.agree (fun k hk=>⟨h.lt k hk,fun hr=>h.off k hr hk⟩)
 refine ⟨⟨⟨cs++news,by rw [List.length_append];exact h1,DsAt.append (DsAt.agree ha _ _ hcs) (DsAt.agree ha _ _ hn)⟩,rfl,fun k hk hF=>?_,fun k hk=>Nat.lt_of_lt_of_le (h.lt k hk) hm.size⟩,hm,by rw [<- h.row];exact hat⟩
 rcases hat with hat | hat
 ·exact h.off k (by rw [<- h.row,<- hat];exact hk) hF
 ·rw [hat] at hk
  have:=h.lt k hF
  simp at hk;omega

theorem Own.read {w:World} {F G:Nat->Prop} {e:TypeId} {sz:Nat} {v:Value} {r:Option Nat} {xs:List D} (h:Own w F e sz v r xs) (hFG:∀ k,F k->G k) (hr:∀ k,r=some k->G k) (hw:widths xs=xs.length*sz):DAt w G (.sl xs) [v]:=by
 obtain ⟨cs,h1,h2⟩:=h.cells
 have h1':=h1
 obtain ⟨hlen,h1⟩:=h1
 rcases h1 with ⟨rfl,hn⟩ | ⟨g,cap,cur,rfl,_,hh,hc1,hc2,hc3,hc4⟩
 ·obtain rfl:xs=[]:=List.length_eq_zero_iff.1 hn
  exact DAt.slice (xs:=[]) (b:=0) (o:=0) (a:=none) (fun h=>by simp at h) (Nat.le_refl _) (Nat.zero_le _) (by rw [RowAt];trivial)
 ·refine DAt.slice (b:=g) (o:=0) (fun _=>⟨rfl,hr g (h.row ▸ rfl)⟩) hc1 hc2 (RowAt.mk (cs:=cs) (DsAt.mono hFG _ _ h2) (fun j hj=>?_))
  have:=h1'.cellAt (g:=g) (cap:=cap) j (by rw [<- hlen];exact hj)
  simp only [Nat.zero_add]
  rw [this];simp [hj]

theorem Own.lit {w:World} {F:Nat->Prop} {e:TypeId} {sz n:Nat} {cs:List Value} {xs:List D} (hn:xs.length=n) (hmx:n<=maxLen) (hl:cs.length=n*sz) (h:DsAt w F xs cs) (lt:∀ k,F k->k<w.heap.size) :
  Own (w.alloc (.cells cs.toArray e)) F e sz (.slice (some ⟨w.heap.size,0,none⟩) n n) (some w.heap.size) xs:=by
 refine ⟨⟨cs,?_,DsAt.agree (fun k hk=>Below.heap_alloc _ _ _ (lt k hk)) _ _ h⟩,rfl,fun k hk hF=>by have:=lt k hF;simp at hk;omega,fun k hk=>by have:=lt k hk;simp;omega⟩
 subst hn
 exact ⟨hl,.inr ⟨w.heap.size,xs.length,cs.toArray,rfl,Nat.zero_le _,by show (w.heap.push _)[w.heap.size]?=_;simp,Nat.le_refl _,hmx,by simp [hl],by simp [<- hl]⟩⟩

def dints (xs:List Int):List D:=xs.map (D.int .i64)
@[simp] theorem dints_length (xs:List Int):(dints xs).length=xs.length:=by simp [dints]
theorem dints_append (xs ys:List Int):dints (xs++ys)=dints xs++dints ys:=by simp [dints]
theorem dints_widths:∀ xs:List Int,widths (dints xs)=xs.length
 | []=>rfl
 | x :: r=>by
  have:=dints_widths r
  simp only [dints,List.map_cons,widths,D.width] at this ⊢
  simp only [List.length_cons];omega
def AllI64 (xs:List Int):Prop:=∀ x∈xs,-9223372036854775808<=x/\x<=9223372036854775807
theorem DsAt.ints {w:World} {F:Nat->Prop}:∀ {xs:List Int},AllI64 xs->DsAt w F (dints xs) (xs.map (Value.int .i64))
 | [],_=>by rw [dints,List.map_nil,DsAt];rfl
 | x :: r,h=>by
  rw [dints,List.map_cons,DsAt]
  exact ⟨[.int .i64 x],r.map (Value.int .i64),rfl,by rw [DAt];exact ⟨rfl,WalkArith.wf_i64 (h x (by simp))⟩,DsAt.ints (fun y hy=>h y (by simp [hy]))⟩
theorem Own.form {w:World} {F:Nat->Prop} {e:TypeId} {sz:Nat} {v:Value} {r:Option Nat} {xs:List D} (h:Own w F e sz v r xs):∃ a cap,v=.slice a xs.length cap:=by
 obtain ⟨cs,h1,_⟩:=h.cells
 rcases h1.2 with ⟨rfl,hn⟩ | ⟨g,cap,cur,rfl,_⟩
 ·exact ⟨none,0,by rw [hn]⟩
 ·exact ⟨_,cap,rfl⟩
structure Lin where
 c:List Int
 l:List Int
 least:Int
def Lin.toD (x:Lin):D:=.st [.sl (dints x.c),.sl (dints x.l),.int .i64 x.least]
theorem Lin.width (x:Lin):x.toD.width=3:=by simp [Lin.toD,D.width,widths]
theorem Lin.at {w:World} {F:Nat->Prop} {c l:List Int} {least:Int} {vC vL:Value} (hC:DAt w F (.sl (dints c)) [vC]) (hL:DAt w F (.sl (dints l)) [vL]) (h : -9223372036854775808<=least/\least<=9223372036854775807) :
  DsAt w F [Lin.toD ⟨c,l,least⟩] [vC,vL,.int .i64 least]:=by
 rw [DsAt]
 refine ⟨_,[],(List.append_nil _).symm,?_,by rw [DsAt]⟩
 rw [Lin.toD,DAt,DsAt]
 refine ⟨[vC],_,rfl,hC,?_⟩
 rw [DsAt]
 refine ⟨[vL],_,rfl,hL,?_⟩
 rw [DsAt]
 exact ⟨[.int .i64 least],[],rfl,by rw [DAt];exact ⟨rfl,WalkArith.wf_i64 h⟩,by rw [DsAt]⟩

theorem box_store {w:World} {A i:Nat} {cs:Array Value} {t:TypeId} {fz:Nat×Nat} (u:Value) (h:w.heap[A]?=some (.cells cs t fz)):(w.setCell ⟨A,i,none⟩ u).heap[A]?=some (.cells (cs.setIfInBounds i u) t fz):=by
 simp [World.setCell,Array.getElem?_modify,h]
theorem fH {w:World} {b i:Nat} {cs:Array Value} {t:TypeId} (h:w.heap[b]?=some (.cells cs t (0,0))):w.frozen? ⟨b,i,none⟩=false:=by
 simp [World.frozen?,h]
theorem Own.alloc {w:World} {F:Nat->Prop} {e:TypeId} {sz:Nat} {v:Value} {r:Option Nat} {xs:List D} (h:Own w F e sz v r xs) (o:Obj):Own (w.alloc o) F e sz v r xs :=
 h.kept (S:=fun _=>False) ((Mod.refl _ w).alloc o) (fun _ _ e=>e) (fun _ _ e=>e)
theorem Own.below {w w':World} {F:Nat->Prop} {e:TypeId} {sz:Nat} {v:Value} {r:Option Nat} {xs:List D} (h:Own w F e sz v r xs) (hb:Below w.heap.size w w'):Own w' F e sz v r xs :=
 h.kept (S:=fun _=>False) (Mod.of_below hb) (fun _ _ e=>e) (fun _ _ e=>e)
structure LinBox (w:World) (A:Nat) (tl ti:TypeId) (v1 v2:Value) (r1 r2:Nat) (c l:List Int) (least:Int):Prop where
 box:w.heap[A]?=some (.cells #[v1,v2,.int .i64 least] tl (0,0))
 o1:Own w (fun _=>False) ti 1 v1 (some r1) (dints c)
 o2:Own w (fun _=>False) ti 1 v2 (some r2) (dints l)
 n12:r1 ≠ r2
 n1:r1 ≠ A
 n2:r2 ≠ A
theorem LinBox.kept {w w':World} {A:Nat} {tl ti:TypeId} {v1 v2:Value} {r1 r2:Nat} {c l:List Int} {least:Int} (h:LinBox w A tl ti v1 v2 r1 r2 c l least) {S:Nat->Prop} (hm:Mod S w w') (hA:¬ S A) (h1:¬ S r1) (h2:¬ S r2):LinBox w' A tl ti v1 v2 r1 r2 c l least :=
 ⟨(hm.block A (gS h.box).1 hA).trans h.box,h.o1.kept hm (fun _ e=>e.elim) (fun k hk=>by cases hk;exact h1),h.o2.kept hm (fun _ e=>e.elim) (fun k hk=>by cases hk;exact h2),h.n12,h.n1,h.n2⟩
theorem LinBox.alloc {w:World} {A:Nat} {tl ti:TypeId} {v1 v2:Value} {r1 r2:Nat} {c l:List Int} {least:Int} (h:LinBox w A tl ti v1 v2 r1 r2 c l least) (o:Obj):LinBox (w.alloc o) A tl ti v1 v2 r1 r2 c l least :=
 h.kept (S:=fun _=>False) ((Mod.refl _ w).alloc o) id id id
theorem LinBox.lt {w:World} {A:Nat} {tl ti:TypeId} {v1 v2:Value} {r1 r2:Nat} {c l:List Int} {least:Int} (h:LinBox w A tl ti v1 v2 r1 r2 c l least):A<w.heap.size/\r1<w.heap.size/\r2<w.heap.size :=
 ⟨(gS h.box).1,h.o1.row_lt rfl,h.o2.row_lt rfl⟩
theorem LinBox.cells {w:World} {A:Nat} {tl ti:TypeId} {v1 v2:Value} {r1 r2:Nat} {c l:List Int} {least:Int} (h:LinBox w A tl ti v1 v2 r1 r2 c l least) :
  w.cell? ⟨A,0,none⟩=some v1/\w.cell? ⟨A,1,none⟩=some v2/\w.cell? ⟨A,2,none⟩=some (.int .i64 least)/\w.frozen? ⟨A,0,none⟩=false/\w.frozen? ⟨A,1,none⟩=false :=
 ⟨cH h.box rfl,cH h.box rfl,cH h.box rfl,fH h.box,fH h.box⟩
theorem LinBox.read {w:World} {G:Nat->Prop} {A:Nat} {tl ti:TypeId} {v1 v2:Value} {r1 r2:Nat} {c l:List Int} {least:Int} (h:LinBox w A tl ti v1 v2 r1 r2 c l least) (h1:G r1) (h2:G r2) (hl : -9223372036854775808<=least/\least<=9223372036854775807) :
  DsAt w G [Lin.toD ⟨c,l,least⟩] [v1,v2,.int .i64 least] :=
 Lin.at (h.o1.read (fun _ e=>e.elim) (fun k hk=>by cases hk;exact h1) (by rw [dints_widths];simp)) (h.o2.read (fun _ e=>e.elim) (fun k hk=>by cases hk;exact h2) (by rw [dints_widths];simp)) hl

end Go.Chalk
/- Schools, weeks, formulas, rules as Lean data, and how they lie in memory. No program is named here. -/
namespace Go.Chalk
open Go.RowKit
abbrev Bs.str (l:Bs):ByteArray:=⟨l.toArray⟩
theorem bs_size (l:Bs):(⟨l.toArray⟩:ByteArray).size=l.length:=by show l.toArray.size=_;simp
theorem bs_of (s:ByteArray):∃ l:Bs,s=⟨l.toArray⟩:=⟨s.data.toList,by cases s;simp⟩
def I64 (n:Int):Prop := -9223372036854775808<=n/\n<=9223372036854775807

theorem ret_bool {a b:Bool} (h:a=b):Ending.returned (.bool a)=.returned (.bool b):=by rw [h]
theorem ret_int {k:IntKind} {a b:Int} (h:a=b):Ending.returned (.int k a)=.returned (.int k b):=by rw [h]
mutual
/-- A datum without slices. -/
def D.isFlat:D->Bool
 | .sl _=>false
 | .st xs=>flats xs
 | _=>true
def flats:List D->Bool
 | []=>true
 | x :: r=>x.isFlat&&flats r
end
mutual
/-- The cells of a datum without slices. -/
def D.vals:D->List Value
 | .int k n=>[.int k n]
 | .bool b=>[.bool b]
 | .str s=>[.string s]
 | .sl _=>[]
 | .st xs=>valsAll xs
def valsAll:List D->List Value
 | []=>[]
 | x :: r=>x.vals++valsAll r
end
mutual
/-- Numbers and texts that Go can hold. -/
def D.fine:D->Prop
 | .int k n=>(Lit.int k n).wf=true
 | .str s=>s.size<=maxLen
 | .st xs=>fines xs
 | _=>True
def fines:List D->Prop
 | []=>True
 | x :: r=>x.fine/\fines r
end
mutual
theorem DAt.flat {w:World} {F:Nat->Prop}:∀ (x:D) (cs:List Value),x.isFlat=true->(DAt w F x cs ↔ cs=x.vals/\x.fine)
 | .int _ _,_,_=>by rw [DAt,D.vals,D.fine]
 | .bool _,_,_=>by rw [DAt,D.vals.eq_def,D.fine.eq_def];simp
 | .str _,_,_=>by rw [DAt,D.vals,D.fine]
 | .sl _,_,h=>by simp [D.isFlat] at h
 | .st xs,cs,h=>by rw [DAt,D.vals,D.fine];exact DsAt.flat xs cs (by simpa [D.isFlat] using h)
theorem DsAt.flat {w:World} {F:Nat->Prop}:∀ (xs:List D) (cs:List Value),flats xs=true->(DsAt w F xs cs ↔ cs=valsAll xs/\fines xs)
 | [],_,_=>by rw [DsAt,valsAll,fines];simp
 | x :: r,cs,h=>by
  rw [flats,Bool.and_eq_true] at h
  rw [DsAt,valsAll,fines]
  constructor
  ·rintro ⟨c1,c2,rfl,h1,h2⟩
   obtain ⟨rfl,g1⟩:=(DAt.flat x c1 h.1).1 h1
   obtain ⟨rfl,g2⟩:=(DsAt.flat r c2 h.2).1 h2
   exact ⟨rfl,g1,g2⟩
  ·rintro ⟨rfl,g1,g2⟩
   exact ⟨_,_,rfl,(DAt.flat x _ h.1).2 ⟨rfl,g1⟩,(DsAt.flat r _ h.2).2 ⟨rfl,g2⟩⟩
end
def FlatIn {α:Type} (w:World) (f:α->D) (sz:Nat) (l:List α) (b o:Nat):Prop:=∀ i (h:i<l.length),CellsAt w b (o+i*sz) (f l[i]).vals
structure FlatT {α:Type} (f:α->D) (sz:Nat):Prop where
 flat:∀ x,(f x).isFlat=true
 width:∀ x,(f x).width=sz
theorem RowAt.flat {α:Type} {f:α->D} {sz:Nat} (hf:FlatT f sz) {w:World} {F:Nat->Prop} {l:List α} {b o:Nat} (h:RowAt w F (l.map f) b o):FlatIn w f sz l b o/\∀ x∈l,(f x).fine:=by
 have key:∀ i (hi:i<l.length),CellsAt w b (o+i*sz) (f l[i]).vals/\(f l[i]).fine:=fun i hi=>by
  obtain ⟨cs,h1,h2⟩:=h.get (sz:=sz) (fun x hx=>by obtain ⟨y,_,rfl⟩:=List.mem_map.1 hx;exact hf.width y) i (by simpa using hi)
  rw [List.getElem_map] at h1
  obtain ⟨rfl,h3⟩:=(DAt.flat _ _ (hf.flat _)).1 h1
  exact ⟨h2,h3⟩
 refine ⟨fun i hi=>(key i hi).1,fun x hx=>?_⟩
 obtain ⟨i,hi,rfl⟩:=List.mem_iff_getElem.1 hx
 exact (key i hi).2
theorem FlatIn.agree {α:Type} {f:α->D} {sz:Nat} {F:Nat->Prop} {w w':World} {l:List α} {b o:Nat} (h:FlatIn w f sz l b o) (ha:Agree F w w') (hb:0<l.length->F b):FlatIn w' f sz l b o:=fun i hi=>(h i hi).agree ha (hb (by omega))
theorem FlatIn.below {α:Type} {f:α->D} {sz B:Nat} {w w':World} {l:List α} {b o:Nat} (h:FlatIn w f sz l b o) (hb:Below B w w') (hlt:0<l.length->b<B):FlatIn w' f sz l b o:=h.agree (agree_of_below hb) hlt
theorem FlatIn.one {α:Type} {f:α->D} {sz:Nat} {w:World} {l:List α} {b o:Nat} (h:FlatIn w f sz l b o) (i:Nat) (hi:i<l.length) {c0:Value} (e:(f l[i]).vals=[c0]):w.cell? ⟨b,o+i*sz,none⟩=some c0:=by
 have:=h i hi;rw [e] at this;simpa using this 0 (by simp)
theorem FlatIn.two {α:Type} {f:α->D} {sz:Nat} {w:World} {l:List α} {b o:Nat} (h:FlatIn w f sz l b o) (i:Nat) (hi:i<l.length) {c0 c1:Value} (e:(f l[i]).vals=[c0,c1]):w.cell? ⟨b,o+i*sz,none⟩=some c0/\w.cell? ⟨b,o+i*sz+1,none⟩=some c1:=by
 have:=h i hi;rw [e] at this;exact ⟨by simpa using this 0 (by simp),by simpa using this 1 (by simp)⟩
theorem FlatIn.three {α:Type} {f:α->D} {sz:Nat} {w:World} {l:List α} {b o:Nat} (h:FlatIn w f sz l b o) (i:Nat) (hi:i<l.length) {c0 c1 c2:Value} (e:(f l[i]).vals=[c0,c1,c2]):w.cell? ⟨b,o+i*sz,none⟩=some c0/\w.cell? ⟨b,o+i*sz+1,none⟩=some c1/\w.cell? ⟨b,o+i*sz+2,none⟩=some c2:=by
 have:=h i hi;rw [e] at this;exact ⟨by simpa using this 0 (by simp),by simpa using this 1 (by simp),by simpa using this 2 (by simp)⟩

structure SlA where
 a:Option Addr
 b:Nat
 o:Nat
 cap:Nat
abbrev SlA.val (x:SlA) (n:Nat):Value:=.slice x.a n x.cap
structure SlIn (w:World) (F:Nat->Prop) (xs:List D) (x:SlA):Prop where
 at_:SlAt F x.a x.b x.o xs.length
 le:xs.length<=x.cap
 max:x.cap<=maxLen
 row:RowAt w F xs x.b x.o
theorem DAt.sl_iff {w:World} {F:Nat->Prop} {xs:List D} {cs:List Value}:DAt w F (.sl xs) cs ↔ ∃ x:SlA,cs=[x.val xs.length]/\SlIn w F xs x:=by
 rw [DAt]
 constructor
 ·rintro ⟨a,b,o,cap,h1,h2,h3,h4,h5⟩;exact ⟨⟨a,b,o,cap⟩,h1,h2,h3,h4,h5⟩
 ·rintro ⟨⟨a,b,o,cap⟩,h1,h2,h3,h4,h5⟩;exact ⟨a,b,o,cap,h1,h2,h3,h4,h5⟩
theorem SlIn.agree {F:Nat->Prop} {w w':World} {xs:List D} {x:SlA} (h:SlIn w F xs x) (ha:Agree F w w'):SlIn w' F xs x :=
 ⟨h.at_,h.le,h.max,RowAt.agree ha xs _ _ (fun hne=>(h.at_ (by cases xs <;> simp_all)).2) h.row⟩
theorem SlIn.mono {F G:Nat->Prop} {w:World} {xs:List D} {x:SlA} (h:SlIn w F xs x) (hFG:∀ k,F k->G k):SlIn w G xs x:=⟨h.at_.mono hFG,h.le,h.max,RowAt.mono hFG _ _ _ h.row⟩

structure Trm where
 kind:Int
 name:Bs
 n:Int
deriving DecidableEq
structure Bnd where
 name:Bs
 sort:Int
deriving DecidableEq
structure Ev where
 name:Bs
 sort:Int
 at_:Int
deriving DecidableEq
structure Plc where
 slot:Int
 room:Int
deriving DecidableEq
structure Slt where
 name:Bs
 day:Int
 hour:Int
deriving DecidableEq
structure Rom where
 name:Bs
 house:Int
 seats:Int
 shut:List Int
deriving DecidableEq
structure Psn where
 name:Bs
 away:List Int
deriving DecidableEq
structure Grp where
 name:Bs
 size:Int
deriving DecidableEq
structure Lsn where
 name:Bs
 who:List Int
 groups:List Int
deriving DecidableEq
structure Schl where
 slots:List Slt
 rooms:List Rom
 people:List Psn
 groups:List Grp
 lessons:List Lsn
deriving DecidableEq

def Trm.toD (x:Trm):D:=.st [.int .i64 x.kind,.str ⟨x.name.toArray⟩,.int .i64 x.n]
def Bnd.toD (x:Bnd):D:=.st [.str ⟨x.name.toArray⟩,.int .i64 x.sort]
def Ev.toD (x:Ev):D:=.st [.str ⟨x.name.toArray⟩,.int .i64 x.sort,.int .i64 x.at_]
def Plc.toD (x:Plc):D:=.st [.int .i64 x.slot,.int .i64 x.room]
def Slt.toD (x:Slt):D:=.st [.str ⟨x.name.toArray⟩,.int .i64 x.day,.int .i64 x.hour]
def Grp.toD (x:Grp):D:=.st [.str ⟨x.name.toArray⟩,.int .i64 x.size]
def Psn.toD (x:Psn):D:=.st [.str ⟨x.name.toArray⟩,.sl (dints x.away)]
def Rom.toD (x:Rom):D:=.st [.str ⟨x.name.toArray⟩,.int .i64 x.house,.int .i64 x.seats,.sl (dints x.shut)]
def Lsn.toD (x:Lsn):D:=.st [.str ⟨x.name.toArray⟩,.sl (dints x.who),.sl (dints x.groups)]
def Schl.toD (x:Schl):D:=.st [.sl (x.slots.map Slt.toD),.sl (x.rooms.map Rom.toD),.sl (x.people.map Psn.toD),.sl (x.groups.map Grp.toD),.sl (x.lessons.map Lsn.toD)]

theorem Trm.flatT:FlatT Trm.toD 3:=⟨fun _=>rfl,fun _=>rfl⟩
theorem Bnd.flatT:FlatT Bnd.toD 2:=⟨fun _=>rfl,fun _=>rfl⟩
theorem Ev.flatT:FlatT Ev.toD 3:=⟨fun _=>rfl,fun _=>rfl⟩
theorem Plc.flatT:FlatT Plc.toD 2:=⟨fun _=>rfl,fun _=>rfl⟩
theorem Slt.flatT:FlatT Slt.toD 3:=⟨fun _=>rfl,fun _=>rfl⟩
theorem Grp.flatT:FlatT Grp.toD 2:=⟨fun _=>rfl,fun _=>rfl⟩
theorem Int.flatT:FlatT (D.int .i64) 1:=⟨fun _=>rfl,fun _=>rfl⟩

inductive Frm where
 | mk (kind:Int) (name:Bs) (n:Int) (terms:List Trm) (binds:List Bnd) (l:List Frm)
def Frm.kind:Frm->Int | .mk a _ _ _ _ _=>a
def Frm.name:Frm->Bs | .mk _ a _ _ _ _=>a
def Frm.n:Frm->Int | .mk _ _ a _ _ _=>a
def Frm.terms:Frm->List Trm | .mk _ _ _ a _ _=>a
def Frm.binds:Frm->List Bnd | .mk _ _ _ _ a _=>a
def Frm.l:Frm->List Frm | .mk _ _ _ _ _ a=>a
mutual
def Frm.toD:Frm->D
 | .mk kind name n terms binds l=>.st [.int .i64 kind,.str ⟨name.toArray⟩,.int .i64 n,.sl (terms.map Trm.toD),.sl (binds.map Bnd.toD),.sl (Frm.toDs l)]
def Frm.toDs:List Frm->List D
 | []=>[]
 | t :: r=>t.toD :: Frm.toDs r
end
theorem Frm.toDs_eq:∀ l:List Frm,Frm.toDs l=l.map Frm.toD
 | []=>rfl
 | t :: r=>by rw [Frm.toDs,Frm.toDs_eq r];rfl
theorem Frm.width (f:Frm):f.toD.width=6:=by cases f;simp [Frm.toD,D.width,widths]
mutual
/-- The number of nodes. -/
def Frm.size:Frm->Nat
 | .mk _ _ _ _ _ l=>1+fsizes l
def fsizes:List Frm->Nat
 | []=>0
 | t :: r=>t.size+fsizes r
end
mutual
/-- The depth. -/
def Frm.depth:Frm->Nat
 | .mk _ _ _ _ _ l=>fdepths l+1
def fdepths:List Frm->Nat
 | []=>0
 | t :: r=>max t.depth (fdepths r)
end
structure Rul where
 name:Bs
 hard:Bool
 weight:Int
 each:List Bnd
 body:Frm
def Rul.toD (x:Rul):D:=.st [.str ⟨x.name.toArray⟩,.bool x.hard,.int .i64 x.weight,.sl (x.each.map Bnd.toD),x.body.toD]
theorem Rul.width (x:Rul):x.toD.width=10:=by simp [Rul.toD,D.width,widths,Frm.width]

theorem fsizes_take_succ:∀ (l:List Frm) (i:Nat) (h:i<l.length),fsizes (l.take (i+1))=fsizes (l.take i)+(l[i]).size
 | t :: r,0,_=>by simp [fsizes]
 | t :: r,i+1,h=>by
  simp only [List.take_succ_cons,fsizes,List.getElem_cons_succ]
  rw [fsizes_take_succ r i (by simpa using h)];omega
theorem fsizes_take_le:∀ (l:List Frm) (i:Nat),fsizes (l.take i)<=fsizes l
 | [],i=>by simp [fsizes]
 | t :: r,0=>by simp [fsizes]
 | t :: r,i+1=>by
  simp only [List.take_succ_cons,fsizes]
  have:=fsizes_take_le r i;omega
theorem Frm.size_pos:∀ t:Frm,0<t.size | .mk _ _ _ _ _ _=>by simp only [Frm.size];omega
theorem length_le_fsizes:∀ (l:List Frm),l.length<=fsizes l
 | []=>by simp
 | t :: r=>by
  have:=length_le_fsizes r;have:=t.size_pos
  simp only [fsizes,List.length_cons];omega
theorem size_le_fsizes (l:List Frm) (i:Nat) (h:i<l.length):(l[i]).size<=fsizes l:=by
 have h1:=fsizes_take_succ l i h
 have h2:=fsizes_take_le l (i+1)
 omega
theorem depth_le_fdepths:∀ (l:List Frm) (i:Nat) (h:i<l.length),(l[i]).depth<=fdepths l
 | t :: r,0,_=>by simp only [fdepths,List.getElem_cons_zero];omega
 | t :: r,i+1,h=>by
  simp only [fdepths,List.getElem_cons_succ]
  have:=depth_le_fdepths r i (by simpa using h);omega
theorem fdepths_take_succ:∀ (l:List Frm) (i:Nat) (h:i<l.length),fdepths (l.take (i+1))=max (fdepths (l.take i)) (l[i]).depth
 | t :: r,0,_=>by simp [fdepths]
 | t :: r,i+1,h=>by
  simp only [List.take_succ_cons,fdepths,List.getElem_cons_succ]
  rw [fdepths_take_succ r i (by simpa using h)];omega
mutual
theorem Frm.depth_size:∀ t:Frm,t.depth<=t.size
 | .mk _ _ _ _ _ l=>by rw [Frm.depth,Frm.size];have:=fdepths_sizes l;omega
theorem fdepths_sizes:∀ l:List Frm,fdepths l<=fsizes l
 | []=>by simp [fdepths]
 | t :: r=>by rw [fdepths,fsizes];have:=Frm.depth_size t;have:=fdepths_sizes r;omega
end
mutual
theorem Frm.bulk_size:∀ t:Frm,t.size<=t.toD.bulk
 | .mk _ _ _ _ _ l=>by rw [Frm.size,Frm.toD,D.bulk];simp only [bulks,D.bulk];have:=Frm.bulks_sizes l;omega
theorem Frm.bulks_sizes:∀ l:List Frm,fsizes l<=bulks (Frm.toDs l)
 | []=>by simp [fsizes]
 | t :: r=>by rw [fsizes,Frm.toDs,bulks];have:=Frm.bulk_size t;have:=Frm.bulks_sizes r;omega
end
structure FrmA where
 t:SlA
 b:SlA
 l:SlA
abbrev FrmA.cells (x:FrmA) (f:Frm):List Value:=[.int .i64 f.kind,.string ⟨f.name.toArray⟩,.int .i64 f.n,x.t.val f.terms.length,x.b.val f.binds.length,x.l.val f.l.length]
structure FrmIn (w:World) (F:Nat->Prop) (f:Frm) (x:FrmA):Prop where
 kind:I64 f.kind
 name:f.name.length<=maxLen
 n:I64 f.n
 terms:SlIn w F (f.terms.map Trm.toD) x.t
 binds:SlIn w F (f.binds.map Bnd.toD) x.b
 l:SlIn w F (f.l.map Frm.toD) x.l
theorem I64.wf {n:Int} (h:I64 n):(Lit.int .i64 n).wf=true:=WalkArith.wf_i64 h
theorem I64.of_wf {n:Int} (h:(Lit.int .i64 n).wf=true):I64 n:=wf_i64 h
theorem FrmIn.iff {w:World} {F:Nat->Prop} {f:Frm} {cs:List Value}:DAt w F f.toD cs ↔ ∃ x:FrmA,cs=x.cells f/\FrmIn w F f x:=by
 obtain ⟨kind,name,n,terms,binds,l⟩:=f
 rw [Frm.toD,DAt,Frm.toDs_eq]
 simp only [DsAt]
 constructor
 ·rintro ⟨_,_,rfl,h0,_,_,rfl,h1,_,_,rfl,h2,_,_,rfl,h3,_,_,rfl,h4,_,_,rfl,h5,rfl⟩
  rw [DAt] at h0;rw [DAt] at h1;rw [DAt] at h2
  obtain ⟨rfl,h0⟩:=h0
  obtain ⟨rfl,h1⟩:=h1
  obtain ⟨rfl,h2⟩:=h2
  obtain ⟨t,rfl,k3⟩:=DAt.sl_iff.1 h3
  obtain ⟨b,rfl,k4⟩:=DAt.sl_iff.1 h4
  obtain ⟨l',rfl,k5⟩:=DAt.sl_iff.1 h5
  exact ⟨⟨t,b,l'⟩,by simp [FrmA.cells,Frm.kind,Frm.name,Frm.n,Frm.terms,Frm.binds,Frm.l],I64.of_wf h0,by rwa [bs_size] at h1,I64.of_wf h2,k3,k4,k5⟩
 ·rintro ⟨⟨t,b,l'⟩,rfl,h0,h1,h2,h3,h4,h5⟩
  refine ⟨[_],_,rfl,by rw [DAt];exact ⟨rfl,h0.wf⟩,[_],_,rfl,by rw [DAt];exact ⟨rfl,by rw [bs_size];exact h1⟩,[_],_,rfl,by rw [DAt];exact ⟨rfl,h2.wf⟩,[_],_,rfl,DAt.sl_iff.2 ⟨t,by simp [Frm.terms],h3⟩,[_],_,rfl,DAt.sl_iff.2 ⟨b,by simp [Frm.binds],h4⟩,[_],[],rfl,DAt.sl_iff.2 ⟨l',by simp [Frm.l],h5⟩,rfl⟩
theorem FrmIn.agree {F:Nat->Prop} {w w':World} {f:Frm} {x:FrmA} (h:FrmIn w F f x) (ha:Agree F w w'):FrmIn w' F f x:=⟨h.kind,h.name,h.n,h.terms.agree ha,h.binds.agree ha,h.l.agree ha⟩
theorem FrmIn.mono {F G:Nat->Prop} {w:World} {f:Frm} {x:FrmA} (h:FrmIn w F f x) (hFG:∀ k,F k->G k):FrmIn w G f x:=⟨h.kind,h.name,h.n,h.terms.mono hFG,h.binds.mono hFG,h.l.mono hFG⟩
theorem FrmIn.later {w w':World} {f:Frm} {x:FrmA} {B C:Nat} (h:FrmIn w (·<B) f x) (hb:Below B w w') (hC:B<=C):FrmIn w' (·<C) f x:=(h.agree (agree_of_below hb)).mono (fun _ hk=>Nat.lt_of_lt_of_le hk hC)
theorem SlIn.frm {w:World} {F:Nat->Prop} {l:List Frm} {x:SlA} (h:SlIn w F (l.map Frm.toD) x) (i:Nat) (hi:i<l.length) :
  ∃ y:FrmA,FrmIn w F l[i] y/\CellsAt w x.b (x.o+i*6) (y.cells l[i]):=by
 obtain ⟨cs,h1,h2⟩:=h.row.get (sz:=6) (fun d hd=>by obtain ⟨t,_,rfl⟩:=List.mem_map.1 hd;exact t.width) i (by simpa using hi)
 rw [List.getElem_map] at h1
 obtain ⟨y,rfl,h3⟩:=FrmIn.iff.1 h1
 exact ⟨y,h3,h2⟩
theorem CellsAt.six {w:World} {b o:Nat} {c0 c1 c2 c3 c4 c5:Value} (h:CellsAt w b o [c0,c1,c2,c3,c4,c5]):w.cell? ⟨b,o,none⟩=some c0/\w.cell? ⟨b,o+1,none⟩=some c1/\w.cell? ⟨b,o+2,none⟩=some c2/\w.cell? ⟨b,o+3,none⟩=some c3/\w.cell? ⟨b,o+4,none⟩=some c4/\w.cell? ⟨b,o+5,none⟩=some c5 :=
 ⟨by simpa using h 0 (by simp),by simpa using h 1 (by simp),by simpa using h 2 (by simp),by simpa using h 3 (by simp),by simpa using h 4 (by simp),by simpa using h 5 (by simp)⟩

structure SchA where
 slots:SlA
 rooms:SlA
 people:SlA
 groups:SlA
 lessons:SlA
abbrev SchA.cells (x:SchA) (s:Schl):List Value:=[x.slots.val s.slots.length,x.rooms.val s.rooms.length,x.people.val s.people.length,x.groups.val s.groups.length,x.lessons.val s.lessons.length]
structure SchIn (w:World) (F:Nat->Prop) (s:Schl) (x:SchA):Prop where
 slots:SlIn w F (s.slots.map Slt.toD) x.slots
 rooms:SlIn w F (s.rooms.map Rom.toD) x.rooms
 people:SlIn w F (s.people.map Psn.toD) x.people
 groups:SlIn w F (s.groups.map Grp.toD) x.groups
 lessons:SlIn w F (s.lessons.map Lsn.toD) x.lessons
theorem SchIn.iff {w:World} {F:Nat->Prop} {s:Schl} {cs:List Value}:DAt w F s.toD cs ↔ ∃ x:SchA,cs=x.cells s/\SchIn w F s x:=by
 rw [Schl.toD,DAt]
 simp only [DsAt]
 constructor
 ·rintro ⟨_,_,rfl,h0,_,_,rfl,h1,_,_,rfl,h2,_,_,rfl,h3,_,_,rfl,h4,rfl⟩
  obtain ⟨a,rfl,k0⟩:=DAt.sl_iff.1 h0
  obtain ⟨b,rfl,k1⟩:=DAt.sl_iff.1 h1
  obtain ⟨c,rfl,k2⟩:=DAt.sl_iff.1 h2
  obtain ⟨d,rfl,k3⟩:=DAt.sl_iff.1 h3
  obtain ⟨e,rfl,k4⟩:=DAt.sl_iff.1 h4
  exact ⟨⟨a,b,c,d,e⟩,by simp [SchA.cells],k0,k1,k2,k3,k4⟩
 ·rintro ⟨⟨a,b,c,d,e⟩,rfl,h0,h1,h2,h3,h4⟩
  refine ⟨[_],_,rfl,DAt.sl_iff.2 ⟨a,by simp,h0⟩,[_],_,rfl,DAt.sl_iff.2 ⟨b,by simp,h1⟩,[_],_,rfl,DAt.sl_iff.2 ⟨c,by simp,h2⟩,[_],_,rfl,DAt.sl_iff.2 ⟨d,by simp,h3⟩,[_],[],rfl,DAt.sl_iff.2 ⟨e,by simp,h4⟩,rfl⟩
theorem SchIn.agree {F:Nat->Prop} {w w':World} {s:Schl} {x:SchA} (h:SchIn w F s x) (ha:Agree F w w'):SchIn w' F s x:=⟨h.slots.agree ha,h.rooms.agree ha,h.people.agree ha,h.groups.agree ha,h.lessons.agree ha⟩
theorem SchIn.mono {F G:Nat->Prop} {w:World} {s:Schl} {x:SchA} (h:SchIn w F s x) (hFG:∀ k,F k->G k):SchIn w G s x:=⟨h.slots.mono hFG,h.rooms.mono hFG,h.people.mono hFG,h.groups.mono hFG,h.lessons.mono hFG⟩
theorem SchIn.later {w w':World} {s:Schl} {x:SchA} {B C:Nat} (h:SchIn w (·<B) s x) (hb:Below B w w') (hC:B<=C):SchIn w' (·<C) s x:=(h.agree (agree_of_below hb)).mono (fun _ hk=>Nat.lt_of_lt_of_le hk hC)
theorem CellsAt.two {w:World} {b o:Nat} {c0 c1:Value} (h:CellsAt w b o [c0,c1]):w.cell? ⟨b,o,none⟩=some c0/\w.cell? ⟨b,o+1,none⟩=some c1 :=
 ⟨by simpa using h 0 (by simp),by simpa using h 1 (by simp)⟩
theorem CellsAt.three {w:World} {b o:Nat} {c0 c1 c2:Value} (h:CellsAt w b o [c0,c1,c2]):w.cell? ⟨b,o,none⟩=some c0/\w.cell? ⟨b,o+1,none⟩=some c1/\w.cell? ⟨b,o+2,none⟩=some c2 :=
 ⟨by simpa using h 0 (by simp),by simpa using h 1 (by simp),by simpa using h 2 (by simp)⟩
theorem CellsAt.four {w:World} {b o:Nat} {c0 c1 c2 c3:Value} (h:CellsAt w b o [c0,c1,c2,c3]):w.cell? ⟨b,o,none⟩=some c0/\w.cell? ⟨b,o+1,none⟩=some c1/\w.cell? ⟨b,o+2,none⟩=some c2/\w.cell? ⟨b,o+3,none⟩=some c3 :=
 ⟨by simpa using h 0 (by simp),by simpa using h 1 (by simp),by simpa using h 2 (by simp),by simpa using h 3 (by simp)⟩
theorem SlIn.rom {w:World} {F:Nat->Prop} {l:List Rom} {x:SlA} (h:SlIn w F (l.map Rom.toD) x) (i:Nat) (hi:i<l.length) :
  ∃ y:SlA,SlIn w F (dints l[i].shut) y/\I64 l[i].house/\I64 l[i].seats/\l[i].name.length<=maxLen/\CellsAt w x.b (x.o+i*4) [.string ⟨l[i].name.toArray⟩,.int .i64 l[i].house,.int .i64 l[i].seats,y.val l[i].shut.length]:=by
 obtain ⟨cs,h1,h2⟩:=h.row.get (sz:=4) (fun d hd=>by obtain ⟨t,_,rfl⟩:=List.mem_map.1 hd;rfl) i (by simpa using hi)
 rw [List.getElem_map,Rom.toD,DAt] at h1
 simp only [DsAt] at h1
 obtain ⟨_,_,rfl,g0,_,_,rfl,g1,_,_,rfl,g2,_,_,rfl,g3,rfl⟩:=h1
 rw [DAt] at g0;rw [DAt] at g1;rw [DAt] at g2
 obtain ⟨rfl,g0⟩:=g0
 obtain ⟨rfl,g1⟩:=g1
 obtain ⟨rfl,g2⟩:=g2
 obtain ⟨y,rfl,q3⟩:=DAt.sl_iff.1 g3
 exact ⟨y,q3,I64.of_wf g1,I64.of_wf g2,by rwa [bs_size] at g0,by simpa using h2⟩
theorem SlIn.psn {w:World} {F:Nat->Prop} {l:List Psn} {x:SlA} (h:SlIn w F (l.map Psn.toD) x) (i:Nat) (hi:i<l.length) :
  ∃ y:SlA,SlIn w F (dints l[i].away) y/\l[i].name.length<=maxLen/\CellsAt w x.b (x.o+i*2) [.string ⟨l[i].name.toArray⟩,y.val l[i].away.length]:=by
 obtain ⟨cs,h1,h2⟩:=h.row.get (sz:=2) (fun d hd=>by obtain ⟨t,_,rfl⟩:=List.mem_map.1 hd;rfl) i (by simpa using hi)
 rw [List.getElem_map,Psn.toD,DAt] at h1
 simp only [DsAt] at h1
 obtain ⟨_,_,rfl,g0,_,_,rfl,g3,rfl⟩:=h1
 rw [DAt] at g0
 obtain ⟨rfl,g0⟩:=g0
 obtain ⟨y,rfl,q3⟩:=DAt.sl_iff.1 g3
 exact ⟨y,q3,by rwa [bs_size] at g0,by simpa using h2⟩
theorem SlIn.lsn {w:World} {F:Nat->Prop} {l:List Lsn} {x:SlA} (h:SlIn w F (l.map Lsn.toD) x) (i:Nat) (hi:i<l.length) :
  ∃ y z:SlA,SlIn w F (dints l[i].who) y/\SlIn w F (dints l[i].groups) z/\l[i].name.length<=maxLen/\CellsAt w x.b (x.o+i*3) [.string ⟨l[i].name.toArray⟩,y.val l[i].who.length,z.val l[i].groups.length]:=by
 obtain ⟨cs,h1,h2⟩:=h.row.get (sz:=3) (fun d hd=>by obtain ⟨t,_,rfl⟩:=List.mem_map.1 hd;rfl) i (by simpa using hi)
 rw [List.getElem_map,Lsn.toD,DAt] at h1
 simp only [DsAt] at h1
 obtain ⟨_,_,rfl,g0,_,_,rfl,g3,_,_,rfl,g4,rfl⟩:=h1
 rw [DAt] at g0
 obtain ⟨rfl,g0⟩:=g0
 obtain ⟨y,rfl,q3⟩:=DAt.sl_iff.1 g3
 obtain ⟨z,rfl,q4⟩:=DAt.sl_iff.1 g4
 exact ⟨y,z,q3,q4,by rwa [bs_size] at g0,by simpa using h2⟩
structure RulA where
 each:SlA
 body:FrmA
abbrev RulA.cells (x:RulA) (r:Rul):List Value:=[.string ⟨r.name.toArray⟩,.bool r.hard,.int .i64 r.weight,x.each.val r.each.length,.int .i64 r.body.kind,.string ⟨r.body.name.toArray⟩,.int .i64 r.body.n,x.body.t.val r.body.terms.length,x.body.b.val r.body.binds.length,x.body.l.val r.body.l.length]
structure RulIn (w:World) (F:Nat->Prop) (r:Rul) (x:RulA):Prop where
 name:r.name.length<=maxLen
 weight:I64 r.weight
 each:SlIn w F (r.each.map Bnd.toD) x.each
 body:FrmIn w F r.body x.body
theorem RulIn.iff {w:World} {F:Nat->Prop} {r:Rul} {cs:List Value}:DAt w F r.toD cs ↔ ∃ x:RulA,cs=x.cells r/\RulIn w F r x:=by
 rw [Rul.toD,DAt]
 simp only [DsAt]
 constructor
 ·rintro ⟨_,_,rfl,h0,_,_,rfl,h1,_,_,rfl,h2,_,_,rfl,h3,_,_,rfl,h4,rfl⟩
  rw [DAt] at h0;rw [DAt] at h1;rw [DAt] at h2
  obtain ⟨rfl,h0⟩:=h0
  subst h1
  obtain ⟨rfl,h2⟩:=h2
  obtain ⟨e,rfl,k3⟩:=DAt.sl_iff.1 h3
  obtain ⟨b,rfl,k4⟩:=FrmIn.iff.1 h4
  exact ⟨⟨e,b⟩,by simp [RulA.cells,FrmA.cells],by rwa [bs_size] at h0,I64.of_wf h2,k3,k4⟩
 ·rintro ⟨⟨e,b⟩,rfl,h0,h2,h3,h4⟩
  refine ⟨[_],_,rfl,by rw [DAt];exact ⟨rfl,by rw [bs_size];exact h0⟩,[_],_,rfl,by rw [DAt],[_],_,rfl,by rw [DAt];exact ⟨rfl,h2.wf⟩,[_],_,rfl,DAt.sl_iff.2 ⟨e,by simp,h3⟩,_,[],by simp only [List.append_nil],FrmIn.iff.2 ⟨b,rfl,h4⟩,rfl⟩
theorem RulIn.agree {F:Nat->Prop} {w w':World} {r:Rul} {x:RulA} (h:RulIn w F r x) (ha:Agree F w w'):RulIn w' F r x:=⟨h.name,h.weight,h.each.agree ha,h.body.agree ha⟩
theorem RulIn.mono {F G:Nat->Prop} {w:World} {r:Rul} {x:RulA} (h:RulIn w F r x) (hFG:∀ k,F k->G k):RulIn w G r x:=⟨h.name,h.weight,h.each.mono hFG,h.body.mono hFG⟩
theorem SlIn.rul {w:World} {F:Nat->Prop} {l:List Rul} {x:SlA} (h:SlIn w F (l.map Rul.toD) x) (i:Nat) (hi:i<l.length) :
  ∃ y:RulA,RulIn w F l[i] y/\CellsAt w x.b (x.o+i*10) (y.cells l[i]):=by
 obtain ⟨cs,h1,h2⟩:=h.row.get (sz:=10) (fun d hd=>by obtain ⟨t,_,rfl⟩:=List.mem_map.1 hd;exact t.width) i (by simpa using hi)
 rw [List.getElem_map] at h1
 obtain ⟨y,rfl,h3⟩:=RulIn.iff.1 h1
 exact ⟨y,h3,h2⟩
theorem SlIn.ints {w:World} {F:Nat->Prop} {l:List Int} {x:SlA} (h:SlIn w F (dints l) x):SlAt F x.a x.b x.o l.length/\l.length<=x.cap/\x.cap<=maxLen/\AllI64 l/\∀ (i:Nat) (h:i<l.length),w.cell? ⟨x.b,x.o+i,none⟩=some (.int .i64 l[i]):=by
 have h0:DAt w F (.sl (dints l)) [x.val l.length]:=DAt.sl_iff.2 ⟨x,by simp,h⟩
 have hr:=RowAt.flat Int.flatT (show RowAt w F (l.map (D.int .i64)) x.b x.o from h.row)
 refine ⟨by simpa using h.at_,by simpa using h.le,h.max,fun n hn=>wf_i64 (hr.2 n hn),fun i hi=>?_⟩
 have:=hr.1.one i hi (c0:=.int .i64 l[i]) rfl
 simpa using this
theorem SlIn.flat {α:Type} {f:α->D} {sz:Nat} (hf:FlatT f sz) {w:World} {F:Nat->Prop} {l:List α} {x:SlA} (h:SlIn w F (l.map f) x):SlAt F x.a x.b x.o l.length/\l.length<=x.cap/\x.cap<=maxLen/\FlatIn w f sz l x.b x.o/\∀ y∈l,(f y).fine :=
 ⟨by simpa using h.at_,by simpa using h.le,h.max,RowAt.flat hf h.row⟩
end Go.Chalk
/- The program's trees as Lean data, beside the formulas (XTree less what ZTypes says). -/
namespace Go.Chalk
open Go.RowKit
inductive Tr where
 | mk (kind v k:Int) (l:List Tr)

def Tr.kind:Tr->Int | .mk a _ _ _=>a
def Tr.l:Tr->List Tr | .mk _ _ _ a=>a

mutual
def Tr.toD:Tr->D
 | .mk kind v k l=>.st [.int .i64 kind,.int .i64 v,.int .i64 k,.sl (Tr.toDs l)]
def Tr.toDs:List Tr->List D
 | []=>[]
 | t :: r=>t.toD :: Tr.toDs r
end
theorem Tr.toDs_eq:∀ l:List Tr,Tr.toDs l=l.map Tr.toD
 | []=>rfl
 | t :: r=>by rw [Tr.toDs,Tr.toDs_eq r];rfl
theorem Tr.width (t:Tr):t.toD.width=4:=by cases t;simp [Tr.toD,D.width,widths]

mutual
/-- The number of nodes. -/
def Tr.size:Tr->Nat
 | .mk _ _ _ l=>1+sizes l
def sizes:List Tr->Nat
 | []=>0
 | t :: r=>t.size+sizes r
end
theorem size_pos:∀ t:Tr,0<t.size | .mk _ _ _ _=>by simp only [Tr.size];omega
mutual
theorem Tr.bulk_size:∀ t:Tr,t.size<=t.toD.bulk
 | .mk _ _ _ l=>by rw [Tr.size,Tr.toD,D.bulk];simp only [bulks,D.bulk];have:=Tr.bulks_sizes l;omega
theorem Tr.bulks_sizes:∀ l:List Tr,sizes l<=bulks (Tr.toDs l)
 | []=>by simp [sizes]
 | t :: r=>by rw [sizes,Tr.toDs,bulks];have:=Tr.bulk_size t;have:=Tr.bulks_sizes r;omega
end
def TreeV (w:World) (F:Nat->Prop) (t:Tr) (x:Value):Prop:=∃ c0 c1 c2 c3,x=.agg #[c0,c1,c2,c3]/\DAt w F t.toD [c0,c1,c2,c3]
theorem TreeV.agree {F:Nat->Prop} {w w':World} {t:Tr} {x:Value} (h:TreeV w F t x) (ha:Agree F w w'):TreeV w' F t x:=by
 obtain ⟨c0,c1,c2,c3,rfl,h⟩:=h;exact ⟨c0,c1,c2,c3,rfl,DAt.agree ha _ _ h⟩
theorem TreeV.mono {F G:Nat->Prop} {w:World} {t:Tr} {x:Value} (h:TreeV w F t x) (hFG:∀ k,F k->G k):TreeV w G t x:=by
 obtain ⟨c0,c1,c2,c3,rfl,h⟩:=h;exact ⟨c0,c1,c2,c3,rfl,DAt.mono hFG _ _ h⟩
theorem TreeV.later {w w':World} {t:Tr} {x:Value} {B:Nat} (h:TreeV w (·<B) t x) (hb:Below B w w') (hB:B<=w'.heap.size):TreeV w' (·<w'.heap.size) t x :=
 (h.agree (agree_of_below hb)).mono (fun _ hk=>Nat.lt_of_lt_of_le hk hB)
def TreesIn (w:World) (F:Nat->Prop) (l:List Tr) (b o:Nat):Prop :=
 ∀ (i:Nat) (h:i<l.length),∃ k0 k1 k2 a n cap,w.cell? ⟨b,o+i*4,none⟩=some (.int .i64 k0)/\w.cell? ⟨b,o+i*4+1,none⟩=some (.int .i64 k1)/\w.cell? ⟨b,o+i*4+2,none⟩=some (.int .i64 k2)/\w.cell? ⟨b,o+i*4+3,none⟩=some (.slice a n cap) /\
    TreeV w F l[i] (.agg #[.int .i64 k0,.int .i64 k1,.int .i64 k2,.slice a n cap])
theorem TreesIn.at {w w':World} {l:List Tr} {b o B:Nat} (h:TreesIn w (·<B) l b o) (hb:Below B w w') (hbl:b<B) (i:Nat) (hi:i<l.length) :
  ∃ k0 k1 k2 a n cap,w'.cell? ⟨b,o+i*4,none⟩=some (.int .i64 k0)/\w'.cell? ⟨b,o+i*4+1,none⟩=some (.int .i64 k1)/\w'.cell? ⟨b,o+i*4+2,none⟩=some (.int .i64 k2)/\w'.cell? ⟨b,o+i*4+3,none⟩=some (.slice a n cap) /\
    TreeV w (·<B) l[i] (.agg #[.int .i64 k0,.int .i64 k1,.int .i64 k2,.slice a n cap]):=by
 obtain ⟨k0,k1,k2,a',n',cap',g0,g1,g2,g3,g4⟩:=h i hi
 exact ⟨k0,k1,k2,a',n',cap',(hb.cell (p:=⟨b,o+i*4,none⟩) hbl).trans g0,(hb.cell (p:=⟨b,o+i*4+1,none⟩) hbl).trans g1,(hb.cell (p:=⟨b,o+i*4+2,none⟩) hbl).trans g2,(hb.cell (p:=⟨b,o+i*4+3,none⟩) hbl).trans g3,g4⟩

theorem Tr.of_fits {P:Program} {tT tS ti:TypeId} {fs:Array Field} (hT:P.underlying tT=some (.struct fs)) (hf:fs.toList.map (·.type)=[ti,ti,ti,tS]) (hS:P.underlying tS=some (.slice tT)) (hi:P.underlying ti=some (.int .i64)) :
  ∀ (n:Nat) (x:D),Fits P n tT x->∃ t:Tr,x=t.toD:=by
 intro n
 induction n using Nat.strongRecOn with
 | _ n ih =>
  intro x h
  obtain ⟨m,xs,rfl,rfl,hx⟩:=h.struct hT hf
  match xs,hx with
  | [x0,x1,x2,x3],⟨h0,h1,h2,h3,_⟩ =>
   obtain ⟨k0,rfl,_⟩:=h0.int hi
   obtain ⟨k1,rfl,_⟩:=h1.int hi
   obtain ⟨k2,rfl,_⟩:=h2.int hi
   obtain ⟨l,rfl⟩:=h3.slice_of hS (f:=Tr.toD) (fun j y hj hy=>ih j (by omega) y hy)
   exact ⟨.mk k0 k1 k2 l,by rw [Tr.toD,Tr.toDs_eq]⟩

end Go.Chalk
