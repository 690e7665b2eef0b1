/- Joined texts: Types, Tree. -/
import Derived.Test.YtjjkfgjnadaheaaGreatDoorB04
import Derived.Test.YtjjkfgjnadaheaaGreatDoorB02
set_option linter.unusedVariables false
set_option linter.unusedSimpArgs false

/- Schools, weeks, formulas, rules as Lean data, and how they lie in memory. No program is named here. -/
namespace Go.Chalk
open Go.RowKit
abbrev Bs.str (l:Bs):ByteArray:=⟨l.toArray⟩
theorem bs_size (l:Bs):(⟨l.toArray⟩:ByteArray).size=l.length:=by show l.toArray.size=_;simp
theorem bs_of (s:ByteArray):∃ l:Bs,s=⟨l.toArray⟩:=⟨s.data.toList,by cases s;simp⟩
def I64 (n:Int):Prop := -9223372036854775808<=n/\n<=9223372036854775807

theorem ret_bool {a b:Bool} (h:a=b):Ending.returned (.bool a)=.returned (.bool b):=by rw [h]
theorem ret_int {k:IntKind} {a b:Int} (h:a=b):Ending.returned (.int k a)=.returned (.int k b):=by rw [h]
mutual
/-- A datum without slices. -/
def D.isFlat:D->Bool
 | .sl _=>false
 | .st xs=>flats xs
 | _=>true
def flats:List D->Bool
 | []=>true
 | x :: r=>x.isFlat&&flats r
end
mutual
/-- The cells of a datum without slices. -/
def D.vals:D->List Value
 | .int k n=>[.int k n]
 | .bool b=>[.bool b]
 | .str s=>[.string s]
 | .sl _=>[]
 | .st xs=>valsAll xs
def valsAll:List D->List Value
 | []=>[]
 | x :: r=>x.vals++valsAll r
end
mutual
/-- Numbers and texts that Go can hold. -/
def D.fine:D->Prop
 | .int k n=>(Lit.int k n).wf=true
 | .str s=>s.size<=maxLen
 | .st xs=>fines xs
 | _=>True
def fines:List D->Prop
 | []=>True
 | x :: r=>x.fine/\fines r
end
mutual
theorem DAt.flat {w:World} {F:Nat->Prop}:∀ (x:D) (cs:List Value),x.isFlat=true->(DAt w F x cs ↔ cs=x.vals/\x.fine)
 | .int _ _,_,_=>by rw [DAt,D.vals,D.fine]
 | .bool _,_,_=>by rw [DAt,D.vals.eq_def,D.fine.eq_def];simp
 | .str _,_,_=>by rw [DAt,D.vals,D.fine]
 | .sl _,_,h=>by simp [D.isFlat] at h
 | .st xs,cs,h=>by rw [DAt,D.vals,D.fine];exact DsAt.flat xs cs (by simpa [D.isFlat] using h)
theorem DsAt.flat {w:World} {F:Nat->Prop}:∀ (xs:List D) (cs:List Value),flats xs=true->(DsAt w F xs cs ↔ cs=valsAll xs/\fines xs)
 | [],_,_=>by rw [DsAt,valsAll,fines];simp
 | x :: r,cs,h=>by
  rw [flats,Bool.and_eq_true] at h
  rw [DsAt,valsAll,fines]
  constructor
  ·rintro ⟨c1,c2,rfl,h1,h2⟩
   obtain ⟨rfl,g1⟩:=(DAt.flat x c1 h.1).1 h1
   obtain ⟨rfl,g2⟩:=(DsAt.flat r c2 h.2).1 h2
   exact ⟨rfl,g1,g2⟩
  ·rintro ⟨rfl,g1,g2⟩
   exact ⟨_,_,rfl,(DAt.flat x _ h.1).2 ⟨rfl,g1⟩,(DsAt.flat r _ h.2).2 ⟨rfl,g2⟩⟩
end
def FlatIn {α:Type} (w:World) (f:α->D) (sz:Nat) (l:List α) (b o:Nat):Prop:=∀ i (h:i<l.length),CellsAt w b (o+i*sz) (f l[i]).vals
structure FlatT {α:Type} (f:α->D) (sz:Nat):Prop where
 flat:∀ x,(f x).isFlat=true
 width:∀ x,(f x).width=sz
theorem RowAt.flat {α:Type} {f:α->D} {sz:Nat} (hf:FlatT f sz) {w:World} {F:Nat->Prop} {l:List α} {b o:Nat} (h:RowAt w F (l.map f) b o):FlatIn w f sz l b o/\∀ x∈l,(f x).fine:=by
 have key:∀ i (hi:i<l.length),CellsAt w b (o+i*sz) (f l[i]).vals/\(f l[i]).fine:=fun i hi=>by
  obtain ⟨cs,h1,h2⟩:=h.get (sz:=sz) (fun x hx=>by obtain ⟨y,_,rfl⟩:=List.mem_map.1 hx;exact hf.width y) i (by simpa using hi)
  rw [List.getElem_map] at h1
  obtain ⟨rfl,h3⟩:=(DAt.flat _ _ (hf.flat _)).1 h1
  exact ⟨h2,h3⟩
 refine ⟨fun i hi=>(key i hi).1,fun x hx=>?_⟩
 obtain ⟨i,hi,rfl⟩:=List.mem_iff_getElem.1 hx
 exact (key i hi).2
theorem FlatIn.agree {α:Type} {f:α->D} {sz:Nat} {F:Nat->Prop} {w w':World} {l:List α} {b o:Nat} (h:FlatIn w f sz l b o) (ha:Agree F w w') (hb:0<l.length->F b):FlatIn w' f sz l b o:=fun i hi=>(h i hi).agree ha (hb (by omega))
theorem FlatIn.below {α:Type} {f:α->D} {sz B:Nat} {w w':World} {l:List α} {b o:Nat} (h:FlatIn w f sz l b o) (hb:Below B w w') (hlt:0<l.length->b<B):FlatIn w' f sz l b o:=h.agree (agree_of_below hb) hlt
theorem FlatIn.one {α:Type} {f:α->D} {sz:Nat} {w:World} {l:List α} {b o:Nat} (h:FlatIn w f sz l b o) (i:Nat) (hi:i<l.length) {c0:Value} (e:(f l[i]).vals=[c0]):w.cell? ⟨b,o+i*sz,none⟩=some c0:=by
 have:=h i hi;rw [e] at this;simpa using this 0 (by simp)
theorem FlatIn.two {α:Type} {f:α->D} {sz:Nat} {w:World} {l:List α} {b o:Nat} (h:FlatIn w f sz l b o) (i:Nat) (hi:i<l.length) {c0 c1:Value} (e:(f l[i]).vals=[c0,c1]):w.cell? ⟨b,o+i*sz,none⟩=some c0/\w.cell? ⟨b,o+i*sz+1,none⟩=some c1:=by
 have:=h i hi;rw [e] at this;exact ⟨by simpa using this 0 (by simp),by simpa using this 1 (by simp)⟩
theorem FlatIn.three {α:Type} {f:α->D} {sz:Nat} {w:World} {l:List α} {b o:Nat} (h:FlatIn w f sz l b o) (i:Nat) (hi:i<l.length) {c0 c1 c2:Value} (e:(f l[i]).vals=[c0,c1,c2]):w.cell? ⟨b,o+i*sz,none⟩=some c0/\w.cell? ⟨b,o+i*sz+1,none⟩=some c1/\w.cell? ⟨b,o+i*sz+2,none⟩=some c2:=by
 have:=h i hi;rw [e] at this;exact ⟨by simpa using this 0 (by simp),by simpa using this 1 (by simp),by simpa using this 2 (by simp)⟩

structure SlA where
 a:Option Addr
 b:Nat
 o:Nat
 cap:Nat
abbrev SlA.val (x:SlA) (n:Nat):Value:=.slice x.a n x.cap
structure SlIn (w:World) (F:Nat->Prop) (xs:List D) (x:SlA):Prop where
 at_:SlAt F x.a x.b x.o xs.length
 le:xs.length<=x.cap
 max:x.cap<=maxLen
 row:RowAt w F xs x.b x.o
theorem DAt.sl_iff {w:World} {F:Nat->Prop} {xs:List D} {cs:List Value}:DAt w F (.sl xs) cs ↔ ∃ x:SlA,cs=[x.val xs.length]/\SlIn w F xs x:=by
 rw [DAt]
 constructor
 ·rintro ⟨a,b,o,cap,h1,h2,h3,h4,h5⟩;exact ⟨⟨a,b,o,cap⟩,h1,h2,h3,h4,h5⟩
 ·rintro ⟨⟨a,b,o,cap⟩,h1,h2,h3,h4,h5⟩;exact ⟨a,b,o,cap,h1,h2,h3,h4,h5⟩
theorem SlIn.agree {F:Nat->Prop} {w w':World} {xs:List D} {x:SlA} (h:SlIn w F xs x) (ha:Agree F w w'):SlIn w' F xs x :=
 ⟨h.at_,h.le,h.max,RowAt.agree ha xs _ _ (fun hne=>(h.at_ (by cases xs <;> simp_all)).2) h.row⟩
theorem SlIn.mono {F G:Nat->Prop} {w:World} {xs:List D} {x:SlA} (h:SlIn w F xs x) (hFG:∀ k,F k->G k):SlIn w G xs x:=⟨h.at_.mono hFG,h.le,h.max,RowAt.mono hFG _ _ _ h.row⟩

structure Trm where
 kind:Int
 name:Bs
 n:Int
deriving DecidableEq
structure Bnd where
 name:Bs
 sort:Int
deriving DecidableEq
structure Ev where
 name:Bs
 sort:Int
 at_:Int
deriving DecidableEq
structure Plc where
 slot:Int
 room:Int
deriving DecidableEq
structure Slt where
 name:Bs
 day:Int
 hour:Int
deriving DecidableEq
structure Rom where
 name:Bs
 house:Int
 seats:Int
 shut:List Int
deriving DecidableEq
structure Psn where
 name:Bs
 away:List Int
deriving DecidableEq
structure Grp where
 name:Bs
 size:Int
deriving DecidableEq
structure Lsn where
 name:Bs
 who:List Int
 groups:List Int
deriving DecidableEq
structure Schl where
 slots:List Slt
 rooms:List Rom
 people:List Psn
 groups:List Grp
 lessons:List Lsn
deriving DecidableEq

def Trm.toD (x:Trm):D:=.st [.int .i64 x.kind,.str ⟨x.name.toArray⟩,.int .i64 x.n]
def Bnd.toD (x:Bnd):D:=.st [.str ⟨x.name.toArray⟩,.int .i64 x.sort]
def Ev.toD (x:Ev):D:=.st [.str ⟨x.name.toArray⟩,.int .i64 x.sort,.int .i64 x.at_]
def Plc.toD (x:Plc):D:=.st [.int .i64 x.slot,.int .i64 x.room]
def Slt.toD (x:Slt):D:=.st [.str ⟨x.name.toArray⟩,.int .i64 x.day,.int .i64 x.hour]
def Grp.toD (x:Grp):D:=.st [.str ⟨x.name.toArray⟩,.int .i64 x.size]
def Psn.toD (x:Psn):D:=.st [.str ⟨x.name.toArray⟩,.sl (dints x.away)]
def Rom.toD (x:Rom):D:=.st [.str ⟨x.name.toArray⟩,.int .i64 x.house,.int .i64 x.seats,.sl (dints x.shut)]
def Lsn.toD (x:Lsn):D:=.st [.str ⟨x.name.toArray⟩,.sl (dints x.who),.sl (dints x.groups)]
def Schl.toD (x:Schl):D:=.st [.sl (x.slots.map Slt.toD),.sl (x.rooms.map Rom.toD),.sl (x.people.map Psn.toD),.sl (x.groups.map Grp.toD),.sl (x.lessons.map Lsn.toD)]

theorem Trm.flatT:FlatT Trm.toD 3:=⟨fun _=>rfl,fun _=>rfl⟩
theorem Bnd.flatT:FlatT Bnd.toD 2:=⟨fun _=>rfl,fun _=>rfl⟩
theorem Ev.flatT:FlatT Ev.toD 3:=⟨fun _=>rfl,fun _=>rfl⟩
theorem Plc.flatT:FlatT Plc.toD 2:=⟨fun _=>rfl,fun _=>rfl⟩
theorem Slt.flatT:FlatT Slt.toD 3:=⟨fun _=>rfl,fun _=>rfl⟩
theorem Grp.flatT:FlatT Grp.toD 2:=⟨fun _=>rfl,fun _=>rfl⟩
theorem Int.flatT:FlatT (D.int .i64) 1:=⟨fun _=>rfl,fun _=>rfl⟩

inductive Frm where
 | mk (kind:Int) (name:Bs) (n:Int) (terms:List Trm) (binds:List Bnd) (l:List Frm)
def Frm.kind:Frm->Int | .mk a _ _ _ _ _=>a
def Frm.name:Frm->Bs | .mk _ a _ _ _ _=>a
def Frm.n:Frm->Int | .mk _ _ a _ _ _=>a
def Frm.terms:Frm->List Trm | .mk _ _ _ a _ _=>a
def Frm.binds:Frm->List Bnd | .mk _ _ _ _ a _=>a
def Frm.l:Frm->List Frm | .mk _ _ _ _ _ a=>a
mutual
def Frm.toD:Frm->D
 | .mk kind name n terms binds l=>.st [.int .i64 kind,.str ⟨name.toArray⟩,.int .i64 n,.sl (terms.map Trm.toD),.sl (binds.map Bnd.toD),.sl (Frm.toDs l)]
def Frm.toDs:List Frm->List D
 | []=>[]
 | t :: r=>t.toD :: Frm.toDs r
end
theorem Frm.toDs_eq:∀ l:List Frm,Frm.toDs l=l.map Frm.toD
 | []=>rfl
 | t :: r=>by rw [Frm.toDs,Frm.toDs_eq r];rfl
theorem Frm.width (f:Frm):f.toD.width=6:=by cases f;simp [Frm.toD,D.width,widths]
mutual
/-- The number of nodes. -/
def Frm.size:Frm->Nat
 | .mk _ _ _ _ _ l=>1+fsizes l
def fsizes:List Frm->Nat
 | []=>0
 | t :: r=>t.size+fsizes r
end
mutual
/-- The depth. -/
def Frm.depth:Frm->Nat
 | .mk _ _ _ _ _ l=>fdepths l+1
def fdepths:List Frm->Nat
 | []=>0
 | t :: r=>max t.depth (fdepths r)
end
structure Rul where
 name:Bs
 hard:Bool
 weight:Int
 each:List Bnd
 body:Frm
def Rul.toD (x:Rul):D:=.st [.str ⟨x.name.toArray⟩,.bool x.hard,.int .i64 x.weight,.sl (x.each.map Bnd.toD),x.body.toD]
theorem Rul.width (x:Rul):x.toD.width=10:=by simp [Rul.toD,D.width,widths,Frm.width]

theorem fsizes_take_succ:∀ (l:List Frm) (i:Nat) (h:i<l.length),fsizes (l.take (i+1))=fsizes (l.take i)+(l[i]).size
 | t :: r,0,_=>by simp [fsizes]
 | t :: r,i+1,h=>by
  simp only [List.take_succ_cons,fsizes,List.getElem_cons_succ]
  rw [fsizes_take_succ r i (by simpa using h)];omega
theorem fsizes_take_le:∀ (l:List Frm) (i:Nat),fsizes (l.take i)<=fsizes l
 | [],i=>by simp [fsizes]
 | t :: r,0=>by simp [fsizes]
 | t :: r,i+1=>by
  simp only [List.take_succ_cons,fsizes]
  have:=fsizes_take_le r i;omega
theorem Frm.size_pos:∀ t:Frm,0<t.size | .mk _ _ _ _ _ _=>by simp only [Frm.size];omega
theorem length_le_fsizes:∀ (l:List Frm),l.length<=fsizes l
 | []=>by simp
 | t :: r=>by
  have:=length_le_fsizes r;have:=t.size_pos
  simp only [fsizes,List.length_cons];omega
theorem size_le_fsizes (l:List Frm) (i:Nat) (h:i<l.length):(l[i]).size<=fsizes l:=by
 have h1:=fsizes_take_succ l i h
 have h2:=fsizes_take_le l (i+1)
 omega
theorem depth_le_fdepths:∀ (l:List Frm) (i:Nat) (h:i<l.length),(l[i]).depth<=fdepths l
 | t :: r,0,_=>by simp only [fdepths,List.getElem_cons_zero];omega
 | t :: r,i+1,h=>by
  simp only [fdepths,List.getElem_cons_succ]
  have:=depth_le_fdepths r i (by simpa using h);omega
theorem fdepths_take_succ:∀ (l:List Frm) (i:Nat) (h:i<l.length),fdepths (l.take (i+1))=max (fdepths (l.take i)) (l[i]).depth
 | t :: r,0,_=>by simp [fdepths]
 | t :: r,i+1,h=>by
  simp only [List.take_succ_cons,fdepths,List.getElem_cons_succ]
  rw [fdepths_take_succ r i (by simpa using h)];omega
mutual
theorem Frm.depth_size:∀ t:Frm,t.depth<=t.size
 | .mk _ _ _ _ _ l=>by rw [Frm.depth,Frm.size];have:=fdepths_sizes l;omega
theorem fdepths_sizes:∀ l:List Frm,fdepths l<=fsizes l
 | []=>by simp [fdepths]
 | t :: r=>by rw [fdepths,fsizes];have:=Frm.depth_size t;have:=fdepths_sizes r;omega
end
mutual
theorem Frm.bulk_size:∀ t:Frm,t.size<=t.toD.bulk
 | .mk _ _ _ _ _ l=>by rw [Frm.size,Frm.toD,D.bulk];simp only [bulks,D.bulk];have:=Frm.bulks_sizes l;omega
theorem Frm.bulks_sizes:∀ l:List Frm,fsizes l<=bulks (Frm.toDs l)
 | []=>by simp [fsizes]
 | t :: r=>by rw [fsizes,Frm.toDs,bulks];have:=Frm.bulk_size t;have:=Frm.bulks_sizes r;omega
end
structure FrmA where
 t:SlA
 b:SlA
 l:SlA
abbrev FrmA.cells (x:FrmA) (f:Frm):List Value:=[.int .i64 f.kind,.string ⟨f.name.toArray⟩,.int .i64 f.n,x.t.val f.terms.length,x.b.val f.binds.length,x.l.val f.l.length]
structure FrmIn (w:World) (F:Nat->Prop) (f:Frm) (x:FrmA):Prop where
 kind:I64 f.kind
 name:f.name.length<=maxLen
 n:I64 f.n
 terms:SlIn w F (f.terms.map Trm.toD) x.t
 binds:SlIn w F (f.binds.map Bnd.toD) x.b
 l:SlIn w F (f.l.map Frm.toD) x.l
theorem I64.wf {n:Int} (h:I64 n):(Lit.int .i64 n).wf=true:=WalkArith.wf_i64 h
theorem I64.of_wf {n:Int} (h:(Lit.int .i64 n).wf=true):I64 n:=wf_i64 h
theorem FrmIn.iff {w:World} {F:Nat->Prop} {f:Frm} {cs:List Value}:DAt w F f.toD cs ↔ ∃ x:FrmA,cs=x.cells f/\FrmIn w F f x:=by
 obtain ⟨kind,name,n,terms,binds,l⟩:=f
 rw [Frm.toD,DAt,Frm.toDs_eq]
 simp only [DsAt]
 constructor
 ·rintro ⟨_,_,rfl,h0,_,_,rfl,h1,_,_,rfl,h2,_,_,rfl,h3,_,_,rfl,h4,_,_,rfl,h5,rfl⟩
  rw [DAt] at h0;rw [DAt] at h1;rw [DAt] at h2
  obtain ⟨rfl,h0⟩:=h0
  obtain ⟨rfl,h1⟩:=h1
  obtain ⟨rfl,h2⟩:=h2
  obtain ⟨t,rfl,k3⟩:=DAt.sl_iff.1 h3
  obtain ⟨b,rfl,k4⟩:=DAt.sl_iff.1 h4
  obtain ⟨l',rfl,k5⟩:=DAt.sl_iff.1 h5
  exact ⟨⟨t,b,l'⟩,by simp [FrmA.cells,Frm.kind,Frm.name,Frm.n,Frm.terms,Frm.binds,Frm.l],I64.of_wf h0,by rwa [bs_size] at h1,I64.of_wf h2,k3,k4,k5⟩
 ·rintro ⟨⟨t,b,l'⟩,rfl,h0,h1,h2,h3,h4,h5⟩
  refine ⟨[_],_,rfl,by rw [DAt];exact ⟨rfl,h0.wf⟩,[_],_,rfl,by rw [DAt];exact ⟨rfl,by rw [bs_size];exact h1⟩,[_],_,rfl,by rw [DAt];exact ⟨rfl,h2.wf⟩,[_],_,rfl,DAt.sl_iff.2 ⟨t,by simp [Frm.terms],h3⟩,[_],_,rfl,DAt.sl_iff.2 ⟨b,by simp [Frm.binds],h4⟩,[_],[],rfl,DAt.sl_iff.2 ⟨l',by simp [Frm.l],h5⟩,rfl⟩
theorem FrmIn.agree {F:Nat->Prop} {w w':World} {f:Frm} {x:FrmA} (h:FrmIn w F f x) (ha:Agree F w w'):FrmIn w' F f x:=⟨h.kind,h.name,h.n,h.terms.agree ha,h.binds.agree ha,h.l.agree ha⟩
theorem FrmIn.mono {F G:Nat->Prop} {w:World} {f:Frm} {x:FrmA} (h:FrmIn w F f x) (hFG:∀ k,F k->G k):FrmIn w G f x:=⟨h.kind,h.name,h.n,h.terms.mono hFG,h.binds.mono hFG,h.l.mono hFG⟩
theorem FrmIn.later {w w':World} {f:Frm} {x:FrmA} {B C:Nat} (h:FrmIn w (·<B) f x) (hb:Below B w w') (hC:B<=C):FrmIn w' (·<C) f x:=(h.agree (agree_of_below hb)).mono (fun _ hk=>Nat.lt_of_lt_of_le hk hC)
theorem SlIn.frm {w:World} {F:Nat->Prop} {l:List Frm} {x:SlA} (h:SlIn w F (l.map Frm.toD) x) (i:Nat) (hi:i<l.length) :
  ∃ y:FrmA,FrmIn w F l[i] y/\CellsAt w x.b (x.o+i*6) (y.cells l[i]):=by
 obtain ⟨cs,h1,h2⟩:=h.row.get (sz:=6) (fun d hd=>by obtain ⟨t,_,rfl⟩:=List.mem_map.1 hd;exact t.width) i (by simpa using hi)
 rw [List.getElem_map] at h1
 obtain ⟨y,rfl,h3⟩:=FrmIn.iff.1 h1
 exact ⟨y,h3,h2⟩
theorem CellsAt.six {w:World} {b o:Nat} {c0 c1 c2 c3 c4 c5:Value} (h:CellsAt w b o [c0,c1,c2,c3,c4,c5]):w.cell? ⟨b,o,none⟩=some c0/\w.cell? ⟨b,o+1,none⟩=some c1/\w.cell? ⟨b,o+2,none⟩=some c2/\w.cell? ⟨b,o+3,none⟩=some c3/\w.cell? ⟨b,o+4,none⟩=some c4/\w.cell? ⟨b,o+5,none⟩=some c5 :=
 ⟨by simpa using h 0 (by simp),by simpa using h 1 (by simp),by simpa using h 2 (by simp),by simpa using h 3 (by simp),by simpa using h 4 (by simp),by simpa using h 5 (by simp)⟩

structure SchA where
 slots:SlA
 rooms:SlA
 people:SlA
 groups:SlA
 lessons:SlA
abbrev SchA.cells (x:SchA) (s:Schl):List Value:=[x.slots.val s.slots.length,x.rooms.val s.rooms.length,x.people.val s.people.length,x.groups.val s.groups.length,x.lessons.val s.lessons.length]
structure SchIn (w:World) (F:Nat->Prop) (s:Schl) (x:SchA):Prop where
 slots:SlIn w F (s.slots.map Slt.toD) x.slots
 rooms:SlIn w F (s.rooms.map Rom.toD) x.rooms
 people:SlIn w F (s.people.map Psn.toD) x.people
 groups:SlIn w F (s.groups.map Grp.toD) x.groups
 lessons:SlIn w F (s.lessons.map Lsn.toD) x.lessons
theorem SchIn.iff {w:World} {F:Nat->Prop} {s:Schl} {cs:List Value}:DAt w F s.toD cs ↔ ∃ x:SchA,cs=x.cells s/\SchIn w F s x:=by
 rw [Schl.toD,DAt]
 simp only [DsAt]
 constructor
 ·rintro ⟨_,_,rfl,h0,_,_,rfl,h1,_,_,rfl,h2,_,_,rfl,h3,_,_,rfl,h4,rfl⟩
  obtain ⟨a,rfl,k0⟩:=DAt.sl_iff.1 h0
  obtain ⟨b,rfl,k1⟩:=DAt.sl_iff.1 h1
  obtain ⟨c,rfl,k2⟩:=DAt.sl_iff.1 h2
  obtain ⟨d,rfl,k3⟩:=DAt.sl_iff.1 h3
  obtain ⟨e,rfl,k4⟩:=DAt.sl_iff.1 h4
  exact ⟨⟨a,b,c,d,e⟩,by simp [SchA.cells],k0,k1,k2,k3,k4⟩
 ·rintro ⟨⟨a,b,c,d,e⟩,rfl,h0,h1,h2,h3,h4⟩
  refine ⟨[_],_,rfl,DAt.sl_iff.2 ⟨a,by simp,h0⟩,[_],_,rfl,DAt.sl_iff.2 ⟨b,by simp,h1⟩,[_],_,rfl,DAt.sl_iff.2 ⟨c,by simp,h2⟩,[_],_,rfl,DAt.sl_iff.2 ⟨d,by simp,h3⟩,[_],[],rfl,DAt.sl_iff.2 ⟨e,by simp,h4⟩,rfl⟩
theorem SchIn.agree {F:Nat->Prop} {w w':World} {s:Schl} {x:SchA} (h:SchIn w F s x) (ha:Agree F w w'):SchIn w' F s x:=⟨h.slots.agree ha,h.rooms.agree ha,h.people.agree ha,h.groups.agree ha,h.lessons.agree ha⟩
theorem SchIn.mono {F G:Nat->Prop} {w:World} {s:Schl} {x:SchA} (h:SchIn w F s x) (hFG:∀ k,F k->G k):SchIn w G s x:=⟨h.slots.mono hFG,h.rooms.mono hFG,h.people.mono hFG,h.groups.mono hFG,h.lessons.mono hFG⟩
theorem SchIn.later {w w':World} {s:Schl} {x:SchA} {B C:Nat} (h:SchIn w (·<B) s x) (hb:Below B w w') (hC:B<=C):SchIn w' (·<C) s x:=(h.agree (agree_of_below hb)).mono (fun _ hk=>Nat.lt_of_lt_of_le hk hC)
theorem CellsAt.two {w:World} {b o:Nat} {c0 c1:Value} (h:CellsAt w b o [c0,c1]):w.cell? ⟨b,o,none⟩=some c0/\w.cell? ⟨b,o+1,none⟩=some c1 :=
 ⟨by simpa using h 0 (by simp),by simpa using h 1 (by simp)⟩
theorem CellsAt.three {w:World} {b o:Nat} {c0 c1 c2:Value} (h:CellsAt w b o [c0,c1,c2]):w.cell? ⟨b,o,none⟩=some c0/\w.cell? ⟨b,o+1,none⟩=some c1/\w.cell? ⟨b,o+2,none⟩=some c2 :=
 ⟨by simpa using h 0 (by simp),by simpa using h 1 (by simp),by simpa using h 2 (by simp)⟩
theorem CellsAt.four {w:World} {b o:Nat} {c0 c1 c2 c3:Value} (h:CellsAt w b o [c0,c1,c2,c3]):w.cell? ⟨b,o,none⟩=some c0/\w.cell? ⟨b,o+1,none⟩=some c1/\w.cell? ⟨b,o+2,none⟩=some c2/\w.cell? ⟨b,o+3,none⟩=some c3 :=
 ⟨by simpa using h 0 (by simp),by simpa using h 1 (by simp),by simpa using h 2 (by simp),by simpa using h 3 (by simp)⟩
theorem SlIn.rom {w:World} {F:Nat->Prop} {l:List Rom} {x:SlA} (h:SlIn w F (l.map Rom.toD) x) (i:Nat) (hi:i<l.length) :
  ∃ y:SlA,SlIn w F (dints l[i].shut) y/\I64 l[i].house/\I64 l[i].seats/\l[i].name.length<=maxLen/\CellsAt w x.b (x.o+i*4) [.string ⟨l[i].name.toArray⟩,.int .i64 l[i].house,.int .i64 l[i].seats,y.val l[i].shut.length]:=by
 obtain ⟨cs,h1,h2⟩:=h.row.get (sz:=4) (fun d hd=>by obtain ⟨t,_,rfl⟩:=List.mem_map.1 hd;rfl) i (by simpa using hi)
 rw [List.getElem_map,Rom.toD,DAt] at h1
 simp only [DsAt] at h1
 obtain ⟨_,_,rfl,g0,_,_,rfl,g1,_,_,rfl,g2,_,_,rfl,g3,rfl⟩:=h1
 rw [DAt] at g0;rw [DAt] at g1;rw [DAt] at g2
 obtain ⟨rfl,g0⟩:=g0
 obtain ⟨rfl,g1⟩:=g1
 obtain ⟨rfl,g2⟩:=g2
 obtain ⟨y,rfl,q3⟩:=DAt.sl_iff.1 g3
 exact ⟨y,q3,I64.of_wf g1,I64.of_wf g2,by rwa [bs_size] at g0,by simpa using h2⟩
theorem SlIn.psn {w:World} {F:Nat->Prop} {l:List Psn} {x:SlA} (h:SlIn w F (l.map Psn.toD) x) (i:Nat) (hi:i<l.length) :
  ∃ y:SlA,SlIn w F (dints l[i].away) y/\l[i].name.length<=maxLen/\CellsAt w x.b (x.o+i*2) [.string ⟨l[i].name.toArray⟩,y.val l[i].away.length]:=by
 obtain ⟨cs,h1,h2⟩:=h.row.get (sz:=2) (fun d hd=>by obtain ⟨t,_,rfl⟩:=List.mem_map.1 hd;rfl) i (by simpa using hi)
 rw [List.getElem_map,Psn.toD,DAt] at h1
 simp only [DsAt] at h1
 obtain ⟨_,_,rfl,g0,_,_,rfl,g3,rfl⟩:=h1
 rw [DAt] at g0
 obtain ⟨rfl,g0⟩:=g0
 obtain ⟨y,rfl,q3⟩:=DAt.sl_iff.1 g3
 exact ⟨y,q3,by rwa [bs_size] at g0,by simpa using h2⟩
theorem SlIn.lsn {w:World} {F:Nat->Prop} {l:List Lsn} {x:SlA} (h:SlIn w F (l.map Lsn.toD) x) (i:Nat) (hi:i<l.length) :
  ∃ y z:SlA,SlIn w F (dints l[i].who) y/\SlIn w F (dints l[i].groups) z/\l[i].name.length<=maxLen/\CellsAt w x.b (x.o+i*3) [.string ⟨l[i].name.toArray⟩,y.val l[i].who.length,z.val l[i].groups.length]:=by
 obtain ⟨cs,h1,h2⟩:=h.row.get (sz:=3) (fun d hd=>by obtain ⟨t,_,rfl⟩:=List.mem_map.1 hd;rfl) i (by simpa using hi)
 rw [List.getElem_map,Lsn.toD,DAt] at h1
 simp only [DsAt] at h1
 obtain ⟨_,_,rfl,g0,_,_,rfl,g3,_,_,rfl,g4,rfl⟩:=h1
 rw [DAt] at g0
 obtain ⟨rfl,g0⟩:=g0
 obtain ⟨y,rfl,q3⟩:=DAt.sl_iff.1 g3
 obtain ⟨z,rfl,q4⟩:=DAt.sl_iff.1 g4
 exact ⟨y,z,q3,q4,by rwa [bs_size] at g0,by simpa using h2⟩
structure RulA where
 each:SlA
 body:FrmA
abbrev RulA.cells (x:RulA) (r:Rul):List Value:=[.string ⟨r.name.toArray⟩,.bool r.hard,.int .i64 r.weight,x.each.val r.each.length,.int .i64 r.body.kind,.string ⟨r.body.name.toArray⟩,.int .i64 r.body.n,x.body.t.val r.body.terms.length,x.body.b.val r.body.binds.length,x.body.l.val r.body.l.length]
structure RulIn (w:World) (F:Nat->Prop) (r:Rul) (x:RulA):Prop where
 name:r.name.length<=maxLen
 weight:I64 r.weight
 each:SlIn w F (r.each.map Bnd.toD) x.each
 body:FrmIn w F r.body x.body
theorem RulIn.iff {w:World} {F:Nat->Prop} {r:Rul} {cs:List Value}:DAt w F r.toD cs ↔ ∃ x:RulA,cs=x.cells r/\RulIn w F r x:=by
 rw [Rul.toD,DAt]
 simp only [DsAt]
 constructor
 ·rintro ⟨_,_,rfl,h0,_,_,rfl,h1,_,_,rfl,h2,_,_,rfl,h3,_,_,rfl,h4,rfl⟩
  rw [DAt] at h0;rw [DAt] at h1;rw [DAt] at h2
  obtain ⟨rfl,h0⟩:=h0
  subst h1
  obtain ⟨rfl,h2⟩:=h2
  obtain ⟨e,rfl,k3⟩:=DAt.sl_iff.1 h3
  obtain ⟨b,rfl,k4⟩:=FrmIn.iff.1 h4
  exact ⟨⟨e,b⟩,by simp [RulA.cells,FrmA.cells],by rwa [bs_size] at h0,I64.of_wf h2,k3,k4⟩
 ·rintro ⟨⟨e,b⟩,rfl,h0,h2,h3,h4⟩
  refine ⟨[_],_,rfl,by rw [DAt];exact ⟨rfl,by rw [bs_size];exact h0⟩,[_],_,rfl,by rw [DAt],[_],_,rfl,by rw [DAt];exact ⟨rfl,h2.wf⟩,[_],_,rfl,DAt.sl_iff.2 ⟨e,by simp,h3⟩,_,[],by simp only [List.append_nil],FrmIn.iff.2 ⟨b,rfl,h4⟩,rfl⟩
theorem RulIn.agree {F:Nat->Prop} {w w':World} {r:Rul} {x:RulA} (h:RulIn w F r x) (ha:Agree F w w'):RulIn w' F r x:=⟨h.name,h.weight,h.each.agree ha,h.body.agree ha⟩
theorem RulIn.mono {F G:Nat->Prop} {w:World} {r:Rul} {x:RulA} (h:RulIn w F r x) (hFG:∀ k,F k->G k):RulIn w G r x:=⟨h.name,h.weight,h.each.mono hFG,h.body.mono hFG⟩
theorem SlIn.ints {w:World} {F:Nat->Prop} {l:List Int} {x:SlA} (h:SlIn w F (dints l) x):SlAt F x.a x.b x.o l.length/\l.length<=x.cap/\x.cap<=maxLen/\AllI64 l/\∀ (i:Nat) (h:i<l.length),w.cell? ⟨x.b,x.o+i,none⟩=some (.int .i64 l[i]):=by
 have h0:DAt w F (.sl (dints l)) [x.val l.length]:=DAt.sl_iff.2 ⟨x,by simp,h⟩
 have hr:=RowAt.flat Int.flatT (show RowAt w F (l.map (D.int .i64)) x.b x.o from h.row)
 refine ⟨by simpa using h.at_,by simpa using h.le,h.max,fun n hn=>wf_i64 (hr.2 n hn),fun i hi=>?_⟩
 have:=hr.1.one i hi (c0:=.int .i64 l[i]) rfl
 simpa using this
theorem SlIn.flat {α:Type} {f:α->D} {sz:Nat} (hf:FlatT f sz) {w:World} {F:Nat->Prop} {l:List α} {x:SlA} (h:SlIn w F (l.map f) x):SlAt F x.a x.b x.o l.length/\l.length<=x.cap/\x.cap<=maxLen/\FlatIn w f sz l x.b x.o/\∀ y∈l,(f y).fine :=
 ⟨by simpa using h.at_,by simpa using h.le,h.max,RowAt.flat hf h.row⟩
end Go.Chalk
/- The program's trees as Lean data, beside the formulas (XTree less what ZTypes says). -/
namespace Go.Chalk
open Go.RowKit
inductive Tr where
 | mk (kind v k:Int) (l:List Tr)

def Tr.kind:Tr->Int | .mk a _ _ _=>a
def Tr.l:Tr->List Tr | .mk _ _ _ a=>a

mutual
def Tr.toD:Tr->D
 | .mk kind v k l=>.st [.int .i64 kind,.int .i64 v,.int .i64 k,.sl (Tr.toDs l)]
def Tr.toDs:List Tr->List D
 | []=>[]
 | t :: r=>t.toD :: Tr.toDs r
end
theorem Tr.toDs_eq:∀ l:List Tr,Tr.toDs l=l.map Tr.toD
 | []=>rfl
 | t :: r=>by rw [Tr.toDs,Tr.toDs_eq r];rfl
theorem Tr.width (t:Tr):t.toD.width=4:=by cases t;simp [Tr.toD,D.width,widths]

mutual
/-- The number of nodes. -/
def Tr.size:Tr->Nat
 | .mk _ _ _ l=>1+sizes l
def sizes:List Tr->Nat
 | []=>0
 | t :: r=>t.size+sizes r
end
theorem sizes_take_succ:∀ (l:List Tr) (i:Nat) (h:i<l.length),sizes (l.take (i+1))=sizes (l.take i)+(l[i]).size
 | t :: r,0,_=>by simp [sizes]
 | t :: r,i+1,h=>by
  simp only [List.take_succ_cons,sizes,List.getElem_cons_succ]
  rw [sizes_take_succ r i (by simpa using h)];omega
theorem sizes_take_le:∀ (l:List Tr) (i:Nat),sizes (l.take i)<=sizes l
 | [],i=>by simp [sizes]
 | t :: r,0=>by simp [sizes]
 | t :: r,i+1=>by
  simp only [List.take_succ_cons,sizes]
  have:=sizes_take_le r i;omega
theorem length_le_sizes:∀ (l:List Tr),l.length<=sizes l
 | []=>by simp
 | .mk _ _ _ l :: r=>by
  have:=length_le_sizes r
  simp only [sizes,Tr.size,List.length_cons];omega
theorem size_pos:∀ t:Tr,0<t.size | .mk _ _ _ _=>by simp only [Tr.size];omega
theorem size_le_sizes (l:List Tr) (i:Nat) (h:i<l.length):(l[i]).size<=sizes l:=by
 have h1:=sizes_take_succ l i h
 have h2:=sizes_take_le l (i+1)
 omega

mutual
theorem Tr.bulk_size:∀ t:Tr,t.size<=t.toD.bulk
 | .mk _ _ _ l=>by rw [Tr.size,Tr.toD,D.bulk];simp only [bulks,D.bulk];have:=Tr.bulks_sizes l;omega
theorem Tr.bulks_sizes:∀ l:List Tr,sizes l<=bulks (Tr.toDs l)
 | []=>by simp [sizes]
 | t :: r=>by rw [sizes,Tr.toDs,bulks];have:=Tr.bulk_size t;have:=Tr.bulks_sizes r;omega
end
theorem Tr.open {w:World} {F:Nat->Prop} {kind v k:Int} {l:List Tr} {cs:List Value} (h:DAt w F (Tr.mk kind v k l).toD cs) :
  ∃ a b o cap,cs=[.int .i64 kind,.int .i64 v,.int .i64 k,.slice a l.length cap]/\SlAt F a b o l.length/\I64 kind/\I64 v/\I64 k/\l.length<=cap/\cap<=maxLen /\
   ∀ (i:Nat) (h:i<l.length),∃ c0 c1 c2 c3,w.cell? ⟨b,o+i*4,none⟩=some c0/\w.cell? ⟨b,o+i*4+1,none⟩=some c1/\w.cell? ⟨b,o+i*4+2,none⟩=some c2/\w.cell? ⟨b,o+i*4+3,none⟩=some c3 /\
    DAt w F (l[i]).toD [c0,c1,c2,c3]:=by
 rw [Tr.toD,DAt] at h
 simp only [DsAt,DAt] at h
 obtain ⟨_,_,rfl,⟨rfl,h1⟩,_,_,rfl,⟨rfl,h2⟩,_,_,rfl,⟨rfl,h3⟩,_,_,rfl,⟨a,b,o,cap,rfl,h4,h5,h6,h7⟩,rfl⟩:=h
 have hl:(Tr.toDs l).length=l.length:=by rw [Tr.toDs_eq];simp
 rw [hl] at h4 h5
 refine ⟨a,b,o,cap,by rw [hl];rfl,h4,wf_i64 h1,wf_i64 h2,wf_i64 h3,h5,h6,fun i hi=>?_⟩
 obtain ⟨cs,g1,g2⟩:=h7.get (sz:=4) (fun x hx=>by rw [Tr.toDs_eq] at hx;obtain ⟨t,_,rfl⟩:=List.mem_map.1 hx;exact t.width) i (by omega)
 have e:(Tr.toDs l)[i]'(by omega)=(l[i]).toD:=by simp [Tr.toDs_eq]
 rw [e] at g1
 have hw:=DAt.length _ _ g1
 rw [Tr.width] at hw
 match cs,hw with
 | [c0,c1,c2,c3],_=>exact ⟨c0,c1,c2,c3,g2 0 (by simp),g2 1 (by simp),g2 2 (by simp),g2 3 (by simp),g1⟩

def TreeV (w:World) (F:Nat->Prop) (t:Tr) (x:Value):Prop:=∃ c0 c1 c2 c3,x=.agg #[c0,c1,c2,c3]/\DAt w F t.toD [c0,c1,c2,c3]
theorem TreeV.agree {F:Nat->Prop} {w w':World} {t:Tr} {x:Value} (h:TreeV w F t x) (ha:Agree F w w'):TreeV w' F t x:=by
 obtain ⟨c0,c1,c2,c3,rfl,h⟩:=h;exact ⟨c0,c1,c2,c3,rfl,DAt.agree ha _ _ h⟩
theorem TreeV.mono {F G:Nat->Prop} {w:World} {t:Tr} {x:Value} (h:TreeV w F t x) (hFG:∀ k,F k->G k):TreeV w G t x:=by
 obtain ⟨c0,c1,c2,c3,rfl,h⟩:=h;exact ⟨c0,c1,c2,c3,rfl,DAt.mono hFG _ _ h⟩
theorem TreeV.later {w w':World} {t:Tr} {x:Value} {B:Nat} (h:TreeV w (·<B) t x) (hb:Below B w w') (hB:B<=w'.heap.size):TreeV w' (·<w'.heap.size) t x :=
 (h.agree (agree_of_below hb)).mono (fun _ hk=>Nat.lt_of_lt_of_le hk hB)
theorem TreeV.shape {w:World} {F:Nat->Prop} {t:Tr} {c0 c1 c2 c3:Value} (h:DAt w F t.toD [c0,c1,c2,c3]):∃ k0 k1 k2 a n cap,c0=.int .i64 k0/\c1=.int .i64 k1/\c2=.int .i64 k2/\c3=.slice a n cap:=by
 obtain ⟨kind,v,k,l⟩:=t
 obtain ⟨a,b,o,cap,h0,_⟩:=Tr.open h
 simp only [List.cons.injEq,and_true] at h0
 exact ⟨_,_,_,_,_,_,h0⟩
def TreesIn (w:World) (F:Nat->Prop) (l:List Tr) (b o:Nat):Prop :=
 ∀ (i:Nat) (h:i<l.length),∃ k0 k1 k2 a n cap,w.cell? ⟨b,o+i*4,none⟩=some (.int .i64 k0)/\w.cell? ⟨b,o+i*4+1,none⟩=some (.int .i64 k1)/\w.cell? ⟨b,o+i*4+2,none⟩=some (.int .i64 k2)/\w.cell? ⟨b,o+i*4+3,none⟩=some (.slice a n cap) /\
    TreeV w F l[i] (.agg #[.int .i64 k0,.int .i64 k1,.int .i64 k2,.slice a n cap])
theorem TreeV.open {w:World} {F:Nat->Prop} {kind v k:Int} {l:List Tr} {x:Value} (h:TreeV w F (.mk kind v k l) x) :
  ∃ a b o cap,x=.agg #[.int .i64 kind,.int .i64 v,.int .i64 k,.slice a l.length cap]/\SlAt F a b o l.length/\I64 kind/\I64 v/\I64 k/\l.length<=cap/\cap<=maxLen/\TreesIn w F l b o:=by
 obtain ⟨c0,c1,c2,c3,rfl,h⟩:=h
 obtain ⟨a,b,o,cap,h0,h1,h2,h3,h4,h5,h6,h7⟩:=Tr.open h
 simp only [List.cons.injEq,and_true] at h0
 obtain ⟨rfl,rfl,rfl,rfl⟩:=h0
 refine ⟨a,b,o,cap,rfl,h1,h2,h3,h4,h5,h6,fun i hi=>?_⟩
 obtain ⟨e0,e1,e2,e3,g0,g1,g2,g3,g4⟩:=h7 i hi
 obtain ⟨k0,k1,k2,a',n',cap',rfl,rfl,rfl,rfl⟩:=TreeV.shape g4
 exact ⟨k0,k1,k2,a',n',cap',g0,g1,g2,g3,_,_,_,_,rfl,g4⟩
theorem TreesIn.at {w w':World} {l:List Tr} {b o B:Nat} (h:TreesIn w (·<B) l b o) (hb:Below B w w') (hbl:b<B) (i:Nat) (hi:i<l.length) :
  ∃ k0 k1 k2 a n cap,w'.cell? ⟨b,o+i*4,none⟩=some (.int .i64 k0)/\w'.cell? ⟨b,o+i*4+1,none⟩=some (.int .i64 k1)/\w'.cell? ⟨b,o+i*4+2,none⟩=some (.int .i64 k2)/\w'.cell? ⟨b,o+i*4+3,none⟩=some (.slice a n cap) /\
    TreeV w (·<B) l[i] (.agg #[.int .i64 k0,.int .i64 k1,.int .i64 k2,.slice a n cap]):=by
 obtain ⟨k0,k1,k2,a',n',cap',g0,g1,g2,g3,g4⟩:=h i hi
 exact ⟨k0,k1,k2,a',n',cap',(hb.cell (p:=⟨b,o+i*4,none⟩) hbl).trans g0,(hb.cell (p:=⟨b,o+i*4+1,none⟩) hbl).trans g1,(hb.cell (p:=⟨b,o+i*4+2,none⟩) hbl).trans g2,(hb.cell (p:=⟨b,o+i*4+3,none⟩) hbl).trans g3,g4⟩

end Go.Chalk
