/- Joined texts: Tree, XGate, XAll. -/
import Derived.Test.YtjjkfgjnadaheaaGreatDoorG04
set_option linter.unusedVariables false
set_option linter.unusedSimpArgs false
/- The program's trees as Lean data, beside the formulas (XTree less what ZTypes says). -/
namespace Go.Chalk
open Go.RowKit
inductive Tr where
 | mk (kind v k:Int) (l:List Tr)

def Tr.kind:Tr->Int | .mk a _ _ _=>a
def Tr.l:Tr->List Tr | .mk _ _ _ a=>a

mutual
def Tr.toD:Tr->D
 | .mk kind v k l=>.st [.int .i64 kind,.int .i64 v,.int .i64 k,.sl (Tr.toDs l)]
def Tr.toDs:List Tr->List D
 | []=>[]
 | t :: r=>t.toD :: Tr.toDs r
end
theorem Tr.toDs_eq:∀ l:List Tr,Tr.toDs l=l.map Tr.toD
 | []=>rfl
 | t :: r=>by rw [Tr.toDs,Tr.toDs_eq r];rfl
theorem Tr.width (t:Tr):t.toD.width=4:=by cases t;simp [Tr.toD,D.width,widths]

mutual
/-- The number of nodes. -/
def Tr.size:Tr->Nat
 | .mk _ _ _ l=>1+sizes l
def sizes:List Tr->Nat
 | []=>0
 | t :: r=>t.size+sizes r
end
theorem sizes_take_succ:∀ (l:List Tr) (i:Nat) (h:i<l.length),sizes (l.take (i+1))=sizes (l.take i)+(l[i]).size
 | t :: r,0,_=>by simp [sizes]
 | t :: r,i+1,h=>by
  simp only [List.take_succ_cons,sizes,List.getElem_cons_succ]
  rw [sizes_take_succ r i (by simpa using h)];omega
theorem sizes_take_le:∀ (l:List Tr) (i:Nat),sizes (l.take i)<=sizes l
 | [],i=>by simp [sizes]
 | t :: r,0=>by simp [sizes]
 | t :: r,i+1=>by
  simp only [List.take_succ_cons,sizes]
  have:=sizes_take_le r i;omega
theorem length_le_sizes:∀ (l:List Tr),l.length<=sizes l
 | []=>by simp
 | .mk _ _ _ l :: r=>by
  have:=length_le_sizes r
  simp only [sizes,Tr.size,List.length_cons];omega
theorem size_pos:∀ t:Tr,0<t.size | .mk _ _ _ _=>by simp only [Tr.size];omega
theorem size_le_sizes (l:List Tr) (i:Nat) (h:i<l.length):(l[i]).size<=sizes l:=by
 have h1:=sizes_take_succ l i h
 have h2:=sizes_take_le l (i+1)
 omega

mutual
theorem Tr.bulk_size:∀ t:Tr,t.size<=t.toD.bulk
 | .mk _ _ _ l=>by rw [Tr.size,Tr.toD,D.bulk];simp only [bulks,D.bulk];have:=Tr.bulks_sizes l;omega
theorem Tr.bulks_sizes:∀ l:List Tr,sizes l<=bulks (Tr.toDs l)
 | []=>by simp [sizes]
 | t :: r=>by rw [sizes,Tr.toDs,bulks];have:=Tr.bulk_size t;have:=Tr.bulks_sizes r;omega
end
theorem Tr.open {w:World} {F:Nat->Prop} {kind v k:Int} {l:List Tr} {cs:List Value} (h:DAt w F (Tr.mk kind v k l).toD cs) :
  ∃ a b o cap,cs=[.int .i64 kind,.int .i64 v,.int .i64 k,.slice a l.length cap]/\SlAt F a b o l.length/\I64 kind/\I64 v/\I64 k/\l.length<=cap/\cap<=maxLen /\
   ∀ (i:Nat) (h:i<l.length),∃ c0 c1 c2 c3,w.cell? ⟨b,o+i*4,none⟩=some c0/\w.cell? ⟨b,o+i*4+1,none⟩=some c1/\w.cell? ⟨b,o+i*4+2,none⟩=some c2/\w.cell? ⟨b,o+i*4+3,none⟩=some c3 /\
    DAt w F (l[i]).toD [c0,c1,c2,c3]:=by
 rw [Tr.toD,DAt] at h
 simp only [DsAt,DAt] at h
 obtain ⟨_,_,rfl,⟨rfl,h1⟩,_,_,rfl,⟨rfl,h2⟩,_,_,rfl,⟨rfl,h3⟩,_,_,rfl,⟨a,b,o,cap,rfl,h4,h5,h6,h7⟩,rfl⟩:=h
 have hl:(Tr.toDs l).length=l.length:=by rw [Tr.toDs_eq];simp
 rw [hl] at h4 h5
 refine ⟨a,b,o,cap,by rw [hl];rfl,h4,wf_i64 h1,wf_i64 h2,wf_i64 h3,h5,h6,fun i hi=>?_⟩
 obtain ⟨cs,g1,g2⟩:=h7.get (sz:=4) (fun x hx=>by rw [Tr.toDs_eq] at hx;obtain ⟨t,_,rfl⟩:=List.mem_map.1 hx;exact t.width) i (by omega)
 have e:(Tr.toDs l)[i]'(by omega)=(l[i]).toD:=by simp [Tr.toDs_eq]
 rw [e] at g1
 have hw:=DAt.length _ _ g1
 rw [Tr.width] at hw
 match cs,hw with
 | [c0,c1,c2,c3],_=>exact ⟨c0,c1,c2,c3,g2 0 (by simp),g2 1 (by simp),g2 2 (by simp),g2 3 (by simp),g1⟩

def TreeV (w:World) (F:Nat->Prop) (t:Tr) (x:Value):Prop:=∃ c0 c1 c2 c3,x=.agg #[c0,c1,c2,c3]/\DAt w F t.toD [c0,c1,c2,c3]
theorem TreeV.agree {F:Nat->Prop} {w w':World} {t:Tr} {x:Value} (h:TreeV w F t x) (ha:Agree F w w'):TreeV w' F t x:=by
 obtain ⟨c0,c1,c2,c3,rfl,h⟩:=h;exact ⟨c0,c1,c2,c3,rfl,DAt.agree ha _ _ h⟩
theorem TreeV.mono {F G:Nat->Prop} {w:World} {t:Tr} {x:Value} (h:TreeV w F t x) (hFG:∀ k,F k->G k):TreeV w G t x:=by
 obtain ⟨c0,c1,c2,c3,rfl,h⟩:=h;exact ⟨c0,c1,c2,c3,rfl,DAt.mono hFG _ _ h⟩
theorem TreeV.later {w w':World} {t:Tr} {x:Value} {B:Nat} (h:TreeV w (·<B) t x) (hb:Below B w w') (hB:B<=w'.heap.size):TreeV w' (·<w'.heap.size) t x :=
 (h.agree (agree_of_below hb)).mono (fun _ hk=>Nat.lt_of_lt_of_le hk hB)
theorem TreeV.shape {w:World} {F:Nat->Prop} {t:Tr} {c0 c1 c2 c3:Value} (h:DAt w F t.toD [c0,c1,c2,c3]):∃ k0 k1 k2 a n cap,c0=.int .i64 k0/\c1=.int .i64 k1/\c2=.int .i64 k2/\c3=.slice a n cap:=by
 obtain ⟨kind,v,k,l⟩:=t
 obtain ⟨a,b,o,cap,h0,_⟩:=Tr.open h
 simp only [List.cons.injEq,and_true] at h0
 exact ⟨_,_,_,_,_,_,h0⟩
def TreesIn (w:World) (F:Nat->Prop) (l:List Tr) (b o:Nat):Prop :=
 ∀ (i:Nat) (h:i<l.length),∃ k0 k1 k2 a n cap,w.cell? ⟨b,o+i*4,none⟩=some (.int .i64 k0)/\w.cell? ⟨b,o+i*4+1,none⟩=some (.int .i64 k1)/\w.cell? ⟨b,o+i*4+2,none⟩=some (.int .i64 k2)/\w.cell? ⟨b,o+i*4+3,none⟩=some (.slice a n cap) /\
    TreeV w F l[i] (.agg #[.int .i64 k0,.int .i64 k1,.int .i64 k2,.slice a n cap])
theorem TreeV.open {w:World} {F:Nat->Prop} {kind v k:Int} {l:List Tr} {x:Value} (h:TreeV w F (.mk kind v k l) x) :
  ∃ a b o cap,x=.agg #[.int .i64 kind,.int .i64 v,.int .i64 k,.slice a l.length cap]/\SlAt F a b o l.length/\I64 kind/\I64 v/\I64 k/\l.length<=cap/\cap<=maxLen/\TreesIn w F l b o:=by
 obtain ⟨c0,c1,c2,c3,rfl,h⟩:=h
 obtain ⟨a,b,o,cap,h0,h1,h2,h3,h4,h5,h6,h7⟩:=Tr.open h
 simp only [List.cons.injEq,and_true] at h0
 obtain ⟨rfl,rfl,rfl,rfl⟩:=h0
 refine ⟨a,b,o,cap,rfl,h1,h2,h3,h4,h5,h6,fun i hi=>?_⟩
 obtain ⟨e0,e1,e2,e3,g0,g1,g2,g3,g4⟩:=h7 i hi
 obtain ⟨k0,k1,k2,a',n',cap',rfl,rfl,rfl,rfl⟩:=TreeV.shape g4
 exact ⟨k0,k1,k2,a',n',cap',g0,g1,g2,g3,_,_,_,_,rfl,g4⟩
theorem TreesIn.at {w w':World} {l:List Tr} {b o B:Nat} (h:TreesIn w (·<B) l b o) (hb:Below B w w') (hbl:b<B) (i:Nat) (hi:i<l.length) :
  ∃ k0 k1 k2 a n cap,w'.cell? ⟨b,o+i*4,none⟩=some (.int .i64 k0)/\w'.cell? ⟨b,o+i*4+1,none⟩=some (.int .i64 k1)/\w'.cell? ⟨b,o+i*4+2,none⟩=some (.int .i64 k2)/\w'.cell? ⟨b,o+i*4+3,none⟩=some (.slice a n cap) /\
    TreeV w (·<B) l[i] (.agg #[.int .i64 k0,.int .i64 k1,.int .i64 k2,.slice a n cap]):=by
 obtain ⟨k0,k1,k2,a',n',cap',g0,g1,g2,g3,g4⟩:=h i hi
 exact ⟨k0,k1,k2,a',n',cap',(hb.cell (p:=⟨b,o+i*4,none⟩) hbl).trans g0,(hb.cell (p:=⟨b,o+i*4+1,none⟩) hbl).trans g1,(hb.cell (p:=⟨b,o+i*4+2,none⟩) hbl).trans g2,(hb.cell (p:=⟨b,o+i*4+3,none⟩) hbl).trans g3,g4⟩

def nodeOk (t:Tr) (n:Int):Bool :=
 match t with
 | .mk kind v k l =>
  if kind=1 then decide ((v=0∨v=1)/\k=0/\l.length=0)
  else if kind=2 then decide (1<=v/\v<=n/\k=0/\l.length=0)
  else if kind=3 then decide (v=0/\k=0/\l.length=1)
  else if kind=4∨kind=5 then decide (v=0/\k=0)
  else if kind=6 then decide (v=0/\0<=k/\k<=1099511627776)
  else false
theorem nodeOk_true {kind v k n:Int} {l:List Tr} (h:nodeOk (.mk kind v k l) n=true) :
  (kind=1/\v=0/\k=0/\((l.length:Int) != 0)=false)∨(kind=1/\v=1/\k=0/\((l.length:Int) != 0)=false)∨(kind=2/\1<=v/\v<=n/\k=0/\((l.length:Int) != 0)=false)∨(kind=3/\v=0/\k=0/\((l.length:Int) != 1)=false)∨(kind=4/\v=0/\k=0)∨(kind=5/\v=0/\k=0)∨(kind=6/\v=0/\0<=k/\k<=1099511627776):=by
 unfold nodeOk at h
 simp only at h
 split at h
 ·simp at h;rcases h with ⟨h | h,h'⟩ <;> simp_all
 split at h
 ·simp at h;simp_all
 split at h
 ·simp at h;simp_all
 split at h
 ·rename_i h4;simp at h;rcases h4 with h4 | h4 <;> simp_all
 split at h
 ·simp at h;simp_all
 ·cases h
theorem nodeOk_false {kind v k n:Int} {l:List Tr} (h:nodeOk (.mk kind v k l) n=false) :
  (kind=1/\¬ ((v=0∨v=1)/\k=0/\l.length=0))∨(kind=2/\¬ (1<=v/\v<=n/\k=0/\l.length=0))∨(kind=3/\¬ (v=0/\k=0/\l.length=1))∨(kind=4/\¬ (v=0/\k=0))∨(kind=5/\¬ (v=0/\k=0))∨(kind=6/\¬ (v=0/\0<=k/\k<=1099511627776)) ∨
  ((kind==1)=false/\(kind==2)=false/\(kind==3)=false/\(kind==4)=false/\(kind==5)=false/\(kind==6)=false):=by
 unfold nodeOk at h
 simp only at h
 by_cases h1:kind=1
 ·rw [if_pos h1] at h;exact .inl ⟨h1,of_decide_eq_false h⟩
 rw [if_neg h1] at h
 by_cases h2:kind=2
 ·rw [if_pos h2] at h;exact .inr (.inl ⟨h2,of_decide_eq_false h⟩)
 rw [if_neg h2] at h
 by_cases h3:kind=3
 ·rw [if_pos h3] at h;exact .inr (.inr (.inl ⟨h3,of_decide_eq_false h⟩))
 rw [if_neg h3] at h
 by_cases h4:kind=4
 ·rw [if_pos (.inl h4)] at h;exact .inr (.inr (.inr (.inl ⟨h4,of_decide_eq_false h⟩)))
 by_cases h5:kind=5
 ·rw [if_pos (.inr h5)] at h;exact .inr (.inr (.inr (.inr (.inl ⟨h5,of_decide_eq_false h⟩))))
 rw [if_neg (by simp [h4,h5])] at h
 by_cases h6:kind=6
 ·rw [if_pos h6] at h;exact .inr (.inr (.inr (.inr (.inr (.inl ⟨h6,of_decide_eq_false h⟩)))))
 simp [h1,h2,h3,h4,h5,h6]
mutual
def mayB:Tr->Int->Bool
 | .mk kind v k l,n=>nodeOk (.mk kind v k l) n&&mayAll l n
def mayAll:List Tr->Int->Bool
 | [],_=>true
 | t :: r,n=>mayB t n&&mayAll r n
end
mutual
/-- A node of more than 4095 parts. -/
def wideB:Tr->Bool
 | .mk _ _ _ l=>decide (4095<l.length)||wideAny l
def wideAny:List Tr->Bool
 | []=>false
 | t :: r=>wideB t||wideAny r
end
theorem mayAll_take_succ (l:List Tr) (n:Int) (j:Nat) (h:j<l.length):mayAll (l.take (j+1)) n=(mayAll (l.take j) n&&mayB l[j] n):=by
 have gen:∀ (l:List Tr) (j:Nat) (h:j<l.length),mayAll (l.take (j+1)) n=(mayAll (l.take j) n&&mayB l[j] n):=by
  intro l
  induction l with
  | nil=>intro j h;simp at h
  | cons t r ih =>
   intro j h
   cases j with
   | zero=>simp [mayAll]
   | succ j=>simp only [List.take_succ_cons,mayAll,List.getElem_cons_succ];rw [ih j (by simpa using h),Bool.and_assoc]
 exact gen l j h
theorem mayAll_eq:∀ (l:List Tr) (n:Int),mayAll l n=l.all (mayB · n)
 | [],_=>rfl
 | t :: r,n=>by rw [mayAll,mayAll_eq r n];rfl
theorem wideAny_eq:∀ (l:List Tr),wideAny l=l.any wideB
 | []=>rfl
 | t :: r=>by rw [wideAny,wideAny_eq r];rfl

def checkE (t:Tr) (n:Int):Int:=if n<0∨65536<n∨mayB t n=false then 1 else if 65536<t.size then 2 else 0

theorem Tr.open_slice {w:World} {F:Nat->Prop} {l:List Tr} {cs:List Value} (h:DAt w F (.sl (l.map Tr.toD)) cs) :
  ∃ a b o cap,cs=[.slice a l.length cap]/\SlAt F a b o l.length/\l.length<=cap/\cap<=maxLen/\TreesIn w F l b o:=by
 have:DAt w F (Tr.mk 0 0 0 l).toD ([.int .i64 0]++([.int .i64 0]++([.int .i64 0]++(cs++[])))):=by
  rw [Tr.toD,DAt]
  simp only [DsAt,Tr.toDs_eq]
  exact ⟨_,_,rfl,by rw [DAt];exact ⟨rfl,rfl⟩,_,_,rfl,by rw [DAt];exact ⟨rfl,rfl⟩,_,_,rfl,by rw [DAt];exact ⟨rfl,rfl⟩,_,_,rfl,h,rfl⟩
 have hx:∃ c,cs=[c]:=by
  have:=DAt.length _ _ h
  simp [D.width] at this
  exact List.length_eq_one_iff.1 this
 obtain ⟨c,rfl⟩:=hx
 obtain ⟨a,b,o,cap,h1,h2,_,_,_,h3,h4,h5⟩:=TreeV.open (w:=w) (F:=F) (x:=.agg #[.int .i64 0,.int .i64 0,.int .i64 0,c]) ⟨_,_,_,_,rfl,by simpa using this⟩
 simp at h1
 subst h1
 exact ⟨a,b,o,cap,rfl,h2,h3,h4,h5⟩

end Go.Chalk
/- The encoding of a tree by constraints, as a Lean function; its bounds. The builder in memory. -/
namespace Go.Chalk
open Go.RowKit
def sumsF (x k:Int) (ls:List Int):List Lin :=
 if k<=0 then [⟨[1],[x],1⟩]
 else if (ls.length:Int)<k then [⟨[1],[-x],1⟩]
 else [⟨k :: ls.map (fun _=>1),-x :: ls,k⟩,⟨((ls.length:Int) - k+1) :: ls.map (fun _=>1),x :: ls.map (- ·),(ls.length:Int) - k+1⟩]

def NewAt (w w':World) (x:D) (cs:List Value):Prop:=DAt w' (fun k=>w.heap.size<=k/\k<w'.heap.size) x cs

def thrF (kind v k n:Int):Int:=if kind=4 then n else if kind=5 then 1 else if kind=6 then k else 1 - v

theorem thrF_10 (k n:Int):thrF 1 0 k n=1:=rfl
theorem thrF_11 (k n:Int):thrF 1 1 k n=0:=rfl
theorem thrF_4 (v k n:Int):thrF 4 v k n=n:=rfl
theorem thrF_5 (v k n:Int):thrF 5 v k n=1:=rfl
theorem thrF_6 (v k n:Int):thrF 6 v k n=k:=rfl

mutual
/-- The literal of a tree, its constraints, the next unused variable. -/
def litF:Tr->Int->Int×List Lin×Int
 | .mk kind v k l,nx =>
  if kind=2 then (v,[],nx)
  else if kind=3 then (- (litsF l nx).1.headD 0,(litsF l nx).2.1,(litsF l nx).2.2)
  else ((litsF l nx).2.2,(litsF l nx).2.1++sumsF (litsF l nx).2.2 (thrF kind v k l.length) (litsF l nx).1,(litsF l nx).2.2+1)
def litsF:List Tr->Int->List Int×List Lin×Int
 | [],nx=>([],[],nx)
 | t :: r,nx=>((litF t nx).1 :: (litsF r (litF t nx).2.2).1,(litF t nx).2.1++(litsF r (litF t nx).2.2).2.1,(litsF r (litF t nx).2.2).2.2)
end
theorem litsF_snoc:∀ (l:List Tr) (t:Tr) (nx:Int),litsF (l++[t]) nx=((litsF l nx).1++[(litF t (litsF l nx).2.2).1],(litsF l nx).2.1++(litF t (litsF l nx).2.2).2.1,(litF t (litsF l nx).2.2).2.2)
 | [],t,nx=>by simp [litsF]
 | x :: r,t,nx=>by
  rw [List.cons_append,litsF,litsF_snoc r t,litsF]
  simp
theorem litsF_length:∀ (l:List Tr) (nx:Int),(litsF l nx).1.length=l.length
 | [],_=>rfl
 | t :: r,nx=>by rw [litsF];simp [litsF_length r]

mutual
theorem litF_bound:∀ (t:Tr) (nx n:Int),mayB t n=true->1<=nx ->
  nx<=(litF t nx).2.2/\(litF t nx).2.2<=nx+t.size/\(litF t nx).1 ≠ 0/\(- (litF t nx).1<=n ∨ - (litF t nx).1<(litF t nx).2.2)/\((litF t nx).1<=n∨(litF t nx).1<(litF t nx).2.2)
 | .mk kind v k l,nx,n,h,hnx=>by
  rw [mayB,Bool.and_eq_true] at h
  have hb:=litsF_bound l nx n h.2 hnx
  have hs:((Tr.mk kind v k l).size:Int)=1+sizes l:=by rw [Tr.size];omega
  have hc:=nodeOk_true h.1
  rw [litF]
  by_cases h2:kind=2
  ·rw [if_pos h2]
   rcases hc with hc | hc | hc | hc | hc | hc | hc <;> simp only [] <;> omega
  ·rw [if_neg h2]
   by_cases h3:kind=3
   ·rw [if_pos h3]
    have hl:l.length=1:=by
     rcases hc with hc | hc | hc | hc | hc | hc | hc <;> first | omega | (have:=hc.2.2.2;simp at this;omega)
    match l,hl with
    | [t],_ =>
     rw [mayAll,Bool.and_eq_true] at h
     have ht:=litF_bound t nx n h.2.1 hnx
     simp only [litsF,List.headD_cons] at hb ⊢
     simp only [sizes] at hs
     omega
   ·rw [if_neg h3]
    simp only
    omega
theorem litsF_bound:∀ (l:List Tr) (nx n:Int),mayAll l n=true->1<=nx ->
  nx<=(litsF l nx).2.2/\(litsF l nx).2.2<=nx+sizes l/\∀ y∈(litsF l nx).1,y ≠ 0/\(-y<=n ∨ -y<(litsF l nx).2.2)/\(y<=n∨y<(litsF l nx).2.2)
 | [],nx,n,_,_=>by simp [litsF,sizes]
 | t :: r,nx,n,h,hnx=>by
  rw [mayAll,Bool.and_eq_true] at h
  have ht:=litF_bound t nx n h.1 hnx
  have hr:=litsF_bound r (litF t nx).2.2 n h.2 (by omega)
  rw [litsF]
  simp only [sizes,List.mem_cons]
  refine ⟨by omega,by omega,fun y hy=>?_⟩
  rcases hy with rfl | hy
  ·omega
  ·exact hr.2.2 y hy
end
theorem sumsF_length (x k:Int) (ls:List Int):(sumsF x k ls).length<=2:=by
 unfold sumsF;split
 ·simp
 ·split <;> simp
mutual
theorem litF_lins:∀ (t:Tr) (nx:Int),(litF t nx).2.1.length<=2*t.size
 | .mk kind v k l,nx=>by
  have:=litsF_lins l nx
  rw [litF,Tr.size]
  split
  ·simp
  ·split
   ·simp only;omega
   ·have:=sumsF_length (litsF l nx).2.2 (thrF kind v k l.length) (litsF l nx).1
    simp only [List.length_append];omega
theorem litsF_lins:∀ (l:List Tr) (nx:Int),(litsF l nx).2.1.length<=2*sizes l
 | [],_=>by simp [litsF]
 | t :: r,nx=>by
  have:=litF_lins t nx
  have:=litsF_lins r (litF t nx).2.2
  rw [litsF,sizes];simp only [List.length_append];omega
end
theorem mayAll_at {l:List Tr} {n:Int} (h:mayAll l n=true) (j:Nat) (hj:j<l.length):mayB l[j] n=true/\mayAll (l.take j) n=true:=by
 have h2:=mayAll_take_succ l n j hj
 have h1:mayAll (l.take (j+1)) n=true:=by
  rw [mayAll_eq] at h ⊢
  rw [List.all_eq_true] at h ⊢
  exact fun x hx=>h x (List.mem_of_mem_take hx)
 rw [h1] at h2
 have:=Bool.and_eq_true_iff.1 h2.symm
 exact ⟨this.2,this.1⟩
theorem mayAll_take {l:List Tr} {n:Int} (h:mayAll l n=true) (j:Nat):mayAll (l.take j) n=true:=by
 rw [mayAll_eq] at h ⊢
 rw [List.all_eq_true] at h ⊢
 exact fun x hx=>h x (List.mem_of_mem_take hx)

def gatesF (t:Tr) (next:Int):Int×List Lin×Int×Int :=
 if next<1∨65537<next then (0,[],0,1)
 else if checkE t (next - 1) ≠ 0 then (0,[],0,checkE t (next - 1))
 else if wideB t then (0,[],0,2)
 else if 65537<(litF t next).2.2 then (0,[],0,2)
 else ((litF t next).1,(litF t next).2.1,(litF t next).2.2,0)

theorem checkE_ok {t:Tr} {n:Int} (h:checkE t n=0):0<=n/\n<=65536/\mayB t n=true/\t.size<=65536:=by
 unfold checkE at h
 by_cases h1:n<0∨65536<n∨mayB t n=false
 ·rw [if_pos h1] at h;omega
 ·rw [if_neg h1] at h
  by_cases h2:65536<t.size
  ·rw [if_pos h2] at h;omega
  ·simp at h1
   exact ⟨by omega,by omega,h1.2.2,by omega⟩
structure MkAt (w:World) (G:Nat->Prop) (mb:Nat) (tm tl:TypeId) (ex:List Value) (v:Value) (nx:Int) (ls:List Lin) (r:Option Nat):Prop where
 box:w.heap[mb]?=some (.cells (v :: .int .i64 nx :: ex).toArray tm (0,0))
 own:∃ F,Own w F tl 3 v r (ls.map Lin.toD)/\∀ k,F k->G k/\k ≠ mb
 row:∀ k,r=some k->G k/\k ≠ mb
 inn:∀ k,G k->k<w.heap.size
theorem MkAt.kept {w w':World} {G:Nat->Prop} {mb:Nat} {tm tl:TypeId} {ex:List Value} {v:Value} {nx:Int} {ls:List Lin} {r:Option Nat} (h:MkAt w G mb tm tl ex v nx ls r) {S:Nat->Prop} (hm:Mod S w w') (hmb:¬ S mb) (hG:∀ k,G k->¬ S k):MkAt w' G mb tm tl ex v nx ls r:=by
 obtain ⟨h1,⟨F,h2,h3⟩,h4,h5⟩:=h
 exact ⟨(hm.block mb (gS h1).1 hmb).trans h1,⟨F,h2.kept hm (fun k hk=>hG k (h3 k hk).1) (fun k hk=>hG k (h4 k hk).1),h3⟩,h4,fun k hk=>Nat.lt_of_lt_of_le (h5 k hk) hm.size⟩
theorem MkAt.below {w w':World} {G:Nat->Prop} {mb:Nat} {tm tl:TypeId} {ex:List Value} {v:Value} {nx:Int} {ls:List Lin} {r:Option Nat} (h:MkAt w G mb tm tl ex v nx ls r) (hb:Below w.heap.size w w'):MkAt w' G mb tm tl ex v nx ls r :=
 h.kept (S:=fun _=>False) (Mod.of_below hb) id (fun _ _=>id)
theorem MkAt.mono {w:World} {G H:Nat->Prop} {mb:Nat} {tm tl:TypeId} {ex:List Value} {v:Value} {nx:Int} {ls:List Lin} {r:Option Nat} (h:MkAt w G mb tm tl ex v nx ls r) (hGH:∀ k,G k->H k) (hH:∀ k,H k->k<w.heap.size):MkAt w H mb tm tl ex v nx ls r:=by
 obtain ⟨h1,⟨F,h2,h3⟩,h4,h5⟩:=h
 exact ⟨h1,⟨F,h2,fun k hk=>⟨hGH k (h3 k hk).1,(h3 k hk).2⟩⟩,fun k hk=>⟨hGH k (h4 k hk).1,(h4 k hk).2⟩,hH⟩
theorem MkAt.lt {w:World} {G:Nat->Prop} {mb:Nat} {tm tl:TypeId} {ex:List Value} {v:Value} {nx:Int} {ls:List Lin} {r:Option Nat} (h:MkAt w G mb tm tl ex v nx ls r):mb<w.heap.size:=(gS h.box).1
theorem MkAt.cells {w:World} {G:Nat->Prop} {mb:Nat} {tm tl:TypeId} {ex:List Value} {v:Value} {nx:Int} {ls:List Lin} {r:Option Nat} (h:MkAt w G mb tm tl ex v nx ls r) :
  w.cell? ⟨mb,0,none⟩=some v/\w.cell? ⟨mb,1,none⟩=some (.int .i64 nx)/\w.frozen? ⟨mb,0,none⟩=false/\w.frozen? ⟨mb,1,none⟩=false :=
 ⟨cH h.box (by simp),cH h.box (by simp),fH h.box,fH h.box⟩
theorem MkAt.count {w:World} {G:Nat->Prop} {mb:Nat} {tm tl:TypeId} {ex:List Value} {v:Value} {nx:Int} {ls:List Lin} {r:Option Nat} (h:MkAt w G mb tm tl ex v nx ls r) (nx':Int):MkAt (w.setCell ⟨mb,1,none⟩ (.int .i64 nx')) G mb tm tl ex v nx' ls r:=by
 obtain ⟨h1,⟨F,h2,h3⟩,h4,h5⟩:=h
 exact ⟨by rw [box_store _ h1];simp,⟨F,h2.store _ (fun e=>(h3 _ e).2 rfl) (fun e=>(h4 _ e).2 rfl),h3⟩,h4,fun k hk=>by have:=h5 k hk;simpa [World.setCell] using this⟩
theorem MkAt.ownsRow {w:World} {G:Nat->Prop} {mb:Nat} {tm tl:TypeId} {ex:List Value} {v:Value} {nx:Int} {ls:List Lin} {r:Option Nat} (h:MkAt w G mb tm tl ex v nx ls r):∃ cs,w.ownsRow 0 tl 3 v ls.length cs:=by
 obtain ⟨h1,⟨F,h2,h3⟩,h4,h5⟩:=h
 obtain ⟨cs,g1,_⟩:=h2.cells
 exact ⟨cs,by simpa using g1⟩
theorem ownsRow_unique {w:World} {b:Nat} {e:TypeId} {sz:Nat} {v:Value} {n:Nat} {xs ys:List Value} (h:w.ownsRow b e sz v n xs) (k:w.ownsRow b e sz v n ys):xs=ys:=by
 obtain ⟨h1,h2⟩:=h
 obtain ⟨k1,k2⟩:=k
 rcases h2 with ⟨rfl,rfl⟩ | ⟨g,cap,cur,rfl,_,hh,_,_,_,hx⟩
 ·simp at h1 k1;simp [h1,k1]
 ·rcases k2 with ⟨k2,_⟩ | ⟨g',cap',cur',k2,_,kk,_,_,_,kx⟩
  ·cases k2
  ·simp at k2
   obtain ⟨rfl,rfl⟩:=k2
   rw [hh] at kk
   simp at kk
   subst kk
   rw [<- hx,<- kx]
theorem MkAt.push {w w1:World} {G H:Nat->Prop} {mb:Nat} {tm tl:TypeId} {ex:List Value} {v v':Value} {nx:Int} {ls new:List Lin} {r:Option Nat} {news:List Value} {cs:List Value} (h:MkAt w G mb tm tl ex v nx ls r)
  (hH:∀ k,H k->¬ G k/\k ≠ mb/\k<w.heap.size) (hn:DsAt w H (new.map Lin.toD) news) (hcs:w.ownsRow 0 tl 3 v ls.length cs)
  (h1:w1.ownsRow 0 tl 3 v' (ls.length+new.length) (cs++news)) (hg:w.grownBy w1 v.ownBlock) (hat:v'.ownBlock=v.ownBlock∨v'.ownBlock=some w.heap.size) :
  w1.heap[mb]?=some (.cells (v :: .int .i64 nx :: ex).toArray tm (0,0))/\MkAt (w1.setCell ⟨mb,0,none⟩ v') (fun k=>G k∨H k∨(k=w.heap.size/\k<w1.heap.size)) mb tm tl ex v' nx (ls++new) v'.ownBlock/\(v'.ownBlock=r∨v'.ownBlock=some w.heap.size)/\Mod (fun k=>k=mb∨r=some k) w (w1.setCell ⟨mb,0,none⟩ v'):=by
 have hlt:=h.lt
 obtain ⟨b1,⟨F,b2,b3⟩,b4,b5⟩:=h
 have o:=b2.widen (G:=fun k=>F k∨H k) (fun k hk=>.inl hk) (fun k hk=>fun e=>by rcases e with e | e;exact b2.off k hk e;exact (hH k e).1 (b4 k hk).1) (fun k hk=>by rcases hk with e | e;exact b2.lt k e;exact (hH k e).2.2)
 have hd:DsAt w F (ls.map Lin.toD) cs:=by
  obtain ⟨cs',g1,g2⟩:=b2.cells
  rw [List.length_map] at g1
  rw [ownsRow_unique hcs g1];exact g2
 obtain ⟨g1,g2,g3⟩:=o.appended (ys:=new.map Lin.toD) (DsAt.mono (fun k hk=>.inl hk) _ _ hd) (by simpa using h1) hg hat (DsAt.mono (fun k hk=>.inr hk) _ _ hn)
 have hbx:w1.heap[mb]?=some (.cells (v :: .int .i64 nx :: ex).toArray tm (0,0)):=(g2.block mb hlt (fun e=>(b4 mb e).2 rfl)).trans b1
 have hrow:∀ k,v'.ownBlock=some k->(G k∨H k∨(k=w.heap.size/\k<w1.heap.size))/\k ≠ mb:=by
  intro k hk
  have hk1:=(h1.lt k hk).2
  rcases g3 with g | g
  ·exact ⟨.inl (b4 k (g ▸ hk)).1,(b4 k (g ▸ hk)).2⟩
  ·rw [g] at hk;simp at hk;exact ⟨.inr (.inr ⟨hk.symm,hk1⟩),by omega⟩
 have hF:∀ k,(F k∨H k)->(G k∨H k∨(k=w.heap.size/\k<w1.heap.size))/\k ≠ mb:=fun k hk=>by rcases hk with e | e;exact ⟨.inl (b3 k e).1,(b3 k e).2⟩;exact ⟨.inr (.inl e),(hH k e).2.1⟩
 refine ⟨hbx,⟨by rw [box_store _ hbx];simp,⟨_,?_,hF⟩,hrow,fun k hk=>?_⟩,g3,(g2.mono (fun k hk=>.inr hk)).setCell (p:=⟨mb,0,none⟩) (fun _=>.inl rfl) _⟩
 ·rw [List.map_append]
  exact g1.store _ (fun e=>(hF _ e).2 rfl) (fun e=>(hrow _ e).2 rfl)
 ·have hs:=g2.size
  have:k<w1.heap.size:=by
   rcases hk with e | e | e
   ·have:=b5 k e;omega
   ·have:=(hH k e).2.2;omega
   ·exact e.2
  simpa [World.setCell] using this

def LitPost (w:World) (G:Nat->Prop) (mb:Nat) (tm tl:TypeId) (ex:List Value) (ls:List Lin) (r:Option Nat) (x:Value) (new:List Lin) (nx':Int) (e:Ending) (w':World):Prop :=
 e=.returned x/\∃ v' r',MkAt w' (fun k=>G k∨(w.heap.size<=k/\k<w'.heap.size)) mb tm tl ex v' nx' (ls++new) r'/\(r'=r∨∃ k,r'=some k/\w.heap.size<=k)/\Mod (fun k=>k=mb∨r=some k) w w'

theorem LitPost.same {w w':World} {G:Nat->Prop} {mb:Nat} {tm tl:TypeId} {ex:List Value} {v x:Value} {nx:Int} {ls:List Lin} {r:Option Nat} (h:MkAt w G mb tm tl ex v nx ls r) (hb:Below w.heap.size w w'):LitPost w G mb tm tl ex ls r x [] nx (.returned x) w':=by
 have g:=h.below hb
 refine ⟨rfl,v,r,?_,.inl rfl,Mod.of_below hb⟩
 rw [List.append_nil]
 exact g.mono (fun k hk=>.inl hk) (fun k hk=>by rcases hk with h | h;exact g.inn k h;exact h.2)
theorem LitPost.ahead {w wa w':World} {G:Nat->Prop} {mb:Nat} {tm tl:TypeId} {ex:List Value} {x y:Value} {nx:Int} {ls new:List Lin} {r:Option Nat} {e:Ending} (hb:Below w.heap.size w wa) (h:LitPost wa G mb tm tl ex ls r x new nx e w'):LitPost w G mb tm tl ex ls r y new nx (.returned y) w':=by
 obtain ⟨_,v',r',h1,h2,h3⟩:=h
 have hs:=hb.size
 have hs':=h3.size
 refine ⟨rfl,v',r',h1.mono (fun k hk=>by rcases hk with h | h;exact .inl h;exact .inr ⟨by omega,h.2⟩) (fun k hk=>?_),?_,(Mod.of_below hb).trans h3 (fun _ _ h=>h)⟩
 ·rcases hk with h | h
  ·exact h1.inn k (.inl h)
  ·exact h.2
 ·rcases h2 with h | ⟨k,h,hk⟩
  ·exact .inl h
  ·exact .inr ⟨k,h,by omega⟩
theorem LitPost.behind {w w' w'':World} {G:Nat->Prop} {mb:Nat} {tm tl:TypeId} {ex:List Value} {x:Value} {nx:Int} {ls new:List Lin} {r:Option Nat} {e:Ending} (h:LitPost w G mb tm tl ex ls r x new nx e w') (hb:Below w'.heap.size w' w''):LitPost w G mb tm tl ex ls r x new nx e w'':=by
 obtain ⟨he,v',r',h1,h2,h3⟩:=h
 have hs:=hb.size
 have g:=h1.below hb
 exact ⟨he,v',r',g.mono (fun k hk=>by rcases hk with h | h;exact .inl h;exact .inr ⟨h.1,by omega⟩) (fun k hk=>by rcases hk with h | h;exact g.inn k (.inl h);exact h.2),h2,h3.trans (Mod.of_below (S:=fun _=>False) hb) (fun _ _ h=>h.elim)⟩

structure LitRel (w wr:World) (G:Nat->Prop) (mb:Nat) (tm tl ti:TypeId) (ex:List Value) (ls:List Lin) (r:Option Nat) (bx:Obj) (l:List Tr) (nx:Int) (j:Nat) (lv:Value) (v':Value) (r' q:Option Nat):Prop where
 le:j<=l.length
 size:w.heap.size<wr.heap.size
 box:wr.heap[w.heap.size]?=some bx
 mod:Mod (fun k=>k=mb∨r=some k) w wr
 maker:MkAt wr (fun k=>G k∨(w.heap.size<k/\k<wr.heap.size/\q ≠ some k)) mb tm tl ex v' (litsF (l.take j) nx).2.2 (ls++(litsF (l.take j) nx).2.1) r'
 fresh:r'=r∨∃ k,r'=some k/\w.heap.size<=k
 lits:Own wr (fun _=>False) ti 1 lv q (dints (litsF (l.take j) nx).1)
 low:∀ k,q=some k->w.heap.size<k

theorem LitRel.start {w:World} {G:Nat->Prop} {mb:Nat} {tm tl ti:TypeId} {ex:List Value} {ls:List Lin} {r:Option Nat} {v:Value} {nx:Int} (bx:Obj) (l:List Tr) (h:MkAt w G mb tm tl ex v nx ls r):LitRel w (w.alloc bx) G mb tm tl ti ex ls r bx l nx 0 (.slice none 0 0) v r none:=by
 have g:=h.below ((Below.refl _ _).alloc (Nat.le_refl _) bx)
 refine ⟨Nat.zero_le _,by simp,boxed (B:=w.heap.size+1) (Below.refl _ _) (by omega),(Mod.refl _ _).alloc _,?_,.inl rfl,Own.nil _ _ _ _ (fun _ h=>h.elim),fun _ h=>by cases h⟩
 simp only [List.take_zero,litsF,List.append_nil]
 exact g.mono (fun k hk=>.inl hk) (fun k hk=>by rcases hk with h | h;exact g.inn k h;exact h.2.1)

theorem LitRel.row2 {w wr w2:World} {G:Nat->Prop} {mb:Nat} {tm tl ti:TypeId} {ex:List Value} {ls ls' new:List Lin} {r r' q:Option Nat} {bx b1 b2:Obj} {l:List Tr} {nx nx':Int} {j:Nat} {lv v':Value} {e:Ending} {x:Value} {H:Nat->Prop} (hmb:mb<w.heap.size) (hG:∀ k,G k->k<w.heap.size)
  (R:LitRel w wr G mb tm tl ti ex ls r bx l nx j lv v' r' q) (hp:LitPost (wr.alloc b1) H mb tm tl ex ls' r' x new nx' e w2):(w2.alloc b2).ownsRow 0 ti 1 lv (litsF (l.take j) nx).1.length ((litsF (l.take j) nx).1.map (Value.int .i64)):=by
 obtain ⟨le,size,box,mod,mk,fresh,lits,low⟩:=R
 obtain ⟨_,v'',r'',m1,f1,md1⟩:=hp
 have hr'q:∀ k,q=some k->r' ≠ some k:=fun k hk hr=>by
  rcases (mk.row k hr).1 with h | h
  ·have:=hG k h;have:=low k hk;omega
  ·exact h.2.2 hk
 have lits2:Own (w2.alloc b2) (fun _=>False) ti 1 lv q (dints (litsF (l.take j) nx).1) :=
  ((lits.alloc b1).kept md1 (fun _ h=>h.elim) (fun k hk=>fun h=>by
   have:=low k hk
   rcases h with h | h
   ·omega
   ·exact hr'q k hk h)).alloc b2
 exact lits2.int_cells.1

theorem LitRel.step {w wr w2 wz:World} {G:Nat->Prop} {mb:Nat} {tm tl ti:TypeId} {ex:List Value} {ls:List Lin} {r r' q:Option Nat} {bx b1 b2:Obj} {l:List Tr} {nx:Int} {j:Nat} {lv v':Value} {e:Ending} {g cap:Nat} {x:Value} (hmb:mb<w.heap.size) (hG:∀ k,G k->k<w.heap.size) (hr:∀ k,r=some k->k<w.heap.size)
  (R:LitRel w wr G mb tm tl ti ex ls r bx l nx j lv v' r' q) (hj:j<l.length)
  (hp:LitPost (wr.alloc b1) (fun k=>G k∨(w.heap.size<k/\k<wr.heap.size/\q ≠ some k)) mb tm tl ex (ls++(litsF (l.take j) nx).2.1) r' x (litF l[j] (litsF (l.take j) nx).2.2).2.1 (litF l[j] (litsF (l.take j) nx).2.2).2.2 e w2)
  (hy : -9223372036854775808<=(litF l[j] (litsF (l.take j) nx).2.2).1/\(litF l[j] (litsF (l.take j) nx).2.2).1<=9223372036854775807)
  (ho:wz.ownsRow 0 ti 1 (.slice (some ⟨g,0,none⟩) ((litsF (l.take j) nx).1.length+1) cap) ((litsF (l.take j) nx).1.length+1) ((litsF (l.take j) nx).1.map (Value.int .i64)++[.int .i64 (litF l[j] (litsF (l.take j) nx).2.2).1])) (hg:(w2.alloc b2).grownBy wz lv.ownBlock) (hat:lv.ownBlock=some g∨g=w2.heap.size+1) :
  ∃ v'' r'',LitRel w wz G mb tm tl ti ex ls r bx l nx (j+1) (.slice (some ⟨g,0,none⟩) ((litsF (l.take j) nx).1.length+1) cap) v'' r'' (some g):=by
 obtain ⟨le,size,box,mod,mk,fresh,lits,low⟩:=R
 obtain ⟨_,v'',r'',m1,f1,md1⟩:=hp
 have hs1:=md1.size
 have hs2:=hg.size
 simp only [World.size_alloc] at hs1 hs2
 have hrow:lv.ownBlock=q:=lits.row
 have hqlt:∀ k,q=some k->k<wr.heap.size:=fun k hk=>lits.row_lt hk
 have hr'q:∀ k,q=some k->r' ≠ some k:=fun k hk hr=>by
  rcases (mk.row k hr).1 with h | h
  ·have:=hG k h;have:=low k hk;omega
  ·exact h.2.2 hk
 -- the literals' row is still there
 have lits2:Own (w2.alloc b2) (fun _=>False) ti 1 lv q (dints (litsF (l.take j) nx).1) :=
  ((lits.alloc b1).kept md1 (fun _ h=>h.elim) (fun k hk=>fun h=>by
   have:=low k hk
   rcases h with h | h
   ·omega
   ·exact hr'q k hk h)).alloc b2
 obtain ⟨o1,md2,at2⟩:=lits2.int_appended (ys:=[(litF l[j] (litsF (l.take j) nx).2.2).1]) (fun x hx=>by simp at hx;subst hx;exact hy) (by simpa using ho) hg (by rcases hat with h | h;exact .inl h.symm;exact .inr (by simp [Value.ownBlock,h]))
 have hgq:q=some g∨g=w2.heap.size+1:=by rw [<- hrow];exact hat
 have md2':Mod (fun k=>q=some k) w2 wz:=((Mod.refl _ w2).alloc b2).trans md2 (fun _ _ h=>h)
 have M1:Mod (fun k=>k=mb∨r'=some k∨q=some k) wr w2:=(((Mod.refl (fun k=>k=mb∨r'=some k) wr).alloc b1).trans md1 (fun _ _ h=>h)).mono (fun k h=>by rcases h with h | h;exact .inl h;exact .inr (.inl h))
 have M2:Mod (fun k=>k=mb∨r'=some k∨q=some k) wr wz:=M1.trans md2' (fun _ _ h=>.inr (.inr h))
 have hmd:Mod (fun k=>k=mb∨r=some k) w wz:=by
  refine mod.trans M2 (fun i hi h=>?_)
  rcases h with h | h | h
  ·exact .inl h
  ·rcases fresh with f | ⟨k,f,hk⟩
   ·exact .inr (f ▸ h)
   ·rw [f] at h;simp at h;omega
  ·have:=low i h;omega
 have hbox:wz.heap[w.heap.size]?=some bx:=by
  rw [M2.block _ size (fun h=>?_)];exact box
  rcases h with h | h | h
  ·omega
  ·rcases (mk.row _ h).1 with h | h
   ·have:=hG _ h;omega
   ·omega
  ·have:=low _ h;omega
 have htake:l.take (j+1)=l.take j++[l[j]]:=List.take_succ_eq_append_getElem hj
 have hm1:∀ k,((G k∨(w.heap.size<k/\k<wr.heap.size/\q ≠ some k))∨((wr.alloc b1).heap.size<=k/\k<w2.heap.size))->q ≠ some k:=by
  intro k hk hq
  have h1:=low k hq
  have h2:=hqlt k hq
  rcases hk with (h | h) | h
  ·have:=hG k h;omega
  ·exact h.2.2 hq
  ·simp at h;omega
 have m2:=m1.kept md2' (fun h=>by have:=low mb h;omega) (fun k hk=>hm1 k hk)
 refine ⟨v'',r'',by omega,by omega,hbox,hmd,?_,?_,?_,?_⟩
 ·rw [htake,litsF_snoc,<- List.append_assoc]
  refine m2.mono (fun k hk=>?_) (fun k hk=>?_)
  ·have h1:=hm1 k hk
   have h2:=m1.inn k hk
   rcases hk with (h | h) | h
   ·exact .inl h
   ·refine .inr ⟨h.1,by omega,?_⟩
    rcases hgq with e | e
    ·rw [<- e];exact h1
    ·simp;omega
   ·simp at h
    refine .inr ⟨by omega,by omega,?_⟩
    rcases hgq with e | e
    ·rw [<- e];exact h1
    ·simp;omega
  ·rcases hk with h | h
   ·have:=hG k h;omega
   ·exact h.2.1
 ·rcases f1 with f | ⟨k,f,hk⟩
  ·rw [f];exact fresh
  ·exact .inr ⟨k,f,by simp at hk;omega⟩
 ·rw [htake,litsF_snoc];exact o1
 ·intro k hk
  simp at hk;subst hk
  rcases hgq with e | e
  ·exact low _ e
  ·omega

end Go.Chalk
/- The encoding of a list of trees, as a Lean function. -/
namespace Go.Chalk
open Go.RowKit
def allGo:List Tr->Int->List Int->List Lin->List Int×List Lin×Int×Int
 | [],nx,xs,ls=>(xs,ls,nx,0)
 | t :: r,nx,xs,ls=>if (gatesF t nx).2.2.2 ≠ 0 then ([],[],0,(gatesF t nx).2.2.2) else allGo r (gatesF t nx).2.2.1 (xs++[(gatesF t nx).1]) (ls++(gatesF t nx).2.1)
def allF (l:List Tr) (next:Int):List Int×List Lin×Int×Int:=if next<1∨65537<next then ([],[],0,1) else allGo l next [] []

theorem allGo_stop {l:List Tr} {j:Nat} (hj:j<l.length) {nx:Int} {xs:List Int} {ls:List Lin} {g:Int×List Lin×Int×Int} (hg:gatesF l[j] nx=g) (h:g.2.2.2 ≠ 0):allGo (l.drop j) nx xs ls=([],[],0,g.2.2.2):=by
 rw [List.drop_eq_getElem_cons hj,allGo,hg,if_pos h]
theorem allGo_next {l:List Tr} {j:Nat} (hj:j<l.length) {nx:Int} {xs:List Int} {ls:List Lin} {g:Int×List Lin×Int×Int} (hg:gatesF l[j] nx=g) (h:g.2.2.2=0):allGo (l.drop j) nx xs ls=allGo (l.drop (j+1)) g.2.2.1 (xs++[g.1]) (ls++g.2.1):=by
 rw [List.drop_eq_getElem_cons hj,allGo,hg,if_neg (by simpa using h)]

theorem gatesF_cases (t:Tr) (nx:Int) (h1:1<=nx) (h2:nx<=65537) :
  (checkE t (nx - 1) ≠ 0/\gatesF t nx=(0,[],0,checkE t (nx - 1)))∨(checkE t (nx - 1)=0/\wideB t=true/\gatesF t nx=(0,[],0,2)) ∨
  (checkE t (nx - 1)=0/\wideB t=false/\65537<(litF t nx).2.2/\gatesF t nx=(0,[],0,2)) ∨
  (checkE t (nx - 1)=0/\wideB t=false/\(litF t nx).2.2<=65537/\gatesF t nx=((litF t nx).1,(litF t nx).2.1,(litF t nx).2.2,0)):=by
 unfold gatesF
 rw [if_neg (by omega)]
 by_cases hc:checkE t (nx - 1)=0
 ·rw [if_neg (by simpa using hc)]
  cases hw:wideB t with
  | true=>exact .inr (.inl ⟨hc,rfl,rfl⟩)
  | false =>
   by_cases hb:65537<(litF t nx).2.2
   ·rw [if_pos hb];exact .inr (.inr (.inl ⟨hc,rfl,hb,rfl⟩))
   ·rw [if_neg hb];exact .inr (.inr (.inr ⟨hc,rfl,by omega,rfl⟩))
 ·exact .inl ⟨hc,by rw [if_pos hc]⟩

theorem allF_one (t:Tr) (next:Int):allF [t] next=if (gatesF t next).2.2.2 ≠ 0 then ([],[],0,(gatesF t next).2.2.2) else ([(gatesF t next).1],(gatesF t next).2.1,(gatesF t next).2.2.1,0):=by
 unfold allF
 by_cases h:next<1∨65537<next
 ·rw [if_pos h]
  have:gatesF t next=(0,[],0,1):=by unfold gatesF;rw [if_pos h]
  rw [this];rfl
 ·rw [if_neg h,allGo]
  split
  ·rfl
  ·rw [allGo];simp
theorem gatesF_err (t:Tr) (next:Int) (h:(gatesF t next).2.2.2 ≠ 0):gatesF t next=(0,[],0,(gatesF t next).2.2.2):=by
 by_cases h0:next<1∨65537<next
 ·have:gatesF t next=(0,[],0,1):=by unfold gatesF;rw [if_pos h0]
  rw [this]
 ·rcases gatesF_cases t next (by omega) (by omega) with ⟨_,g⟩ | ⟨_,_,g⟩ | ⟨_,_,_,g⟩ | ⟨_,_,_,g⟩
  ·rw [g]
  ·rw [g]
  ·rw [g]
  ·rw [g] at h;exact absurd rfl h

end Go.Chalk
