/- Parts of the proof. -/
import Derived.Test.YtncnnbmeacpboaaGreatDoorQ04
import Derived.Lib.IndexMore
set_option linter.unusedVariables false
set_option linter.unusedSimpArgs false
namespace Go.aa
variable {f:ae} {a a' binds:List aD} {i:Nat} {b:aD} {s:aF} {env e e':List Ev} {kind n:Int} {w:List Pt} {name:Bs}
def bf:Bs:=[32,104,97,114,100,32,115,111,102,116,32,101,97,99,104,32,97,108,108,32,115,111,109,101,32,108,101,97,115,116,32,109,111,115,116,32,116,114,117,101,32,102,97,108,115,101,32,97,116,32,105,110,32,116,101,97,99,104,101,115,32,97,116,116,101,110,100,115,32,97,119,97,121,32,115,104,117,116,32,100,97,121,32,104,111,117,114,32,104,111,117,115,101,32,115,101,97,116,115,32,115,105,122,101,32,108,101,115,115,111,110,32,115,108,111,116,32,114,111,111,109,32,112,101,114,115,111,110,32,103,114,111,117,112,32]
def dG:List Bs:=[[104,97,114,100],[115,111,102,116],[101,97,99,104],[97,108,108],[115,111,109,101],[108,101,97,115,116],[109,111,115,116],[116,114,117,101],[102,97,108,115,101],[97,116],[105,110],[116,101,97,99,104,101,115],[97,116,116,101,110,100,115],[97,119,97,121],[115,104,117,116],[100,97,121],[104,111,117,114],[104,111,117,115,101],[115,101,97,116,115],[115,105,122,101],[108,101,115,115,111,110],[115,108,111,116],[114,111,111,109],[112,101,114,115,111,110],[103,114,111,117,112]]
def df(s:Bs):Bool:=match s with
 |[]=>false
 |c::r=>decide ((c::r).length<=64)&&decide (97<=c.toNat)&&(c::r).all aU&&!(Lib.contains bf (32::((c::r)++[32])))
def aR(s:Bs):Bool:=match s with
 |[]=>false
 |c::r=>decide ((c::r).length<=64)&&!(dG.contains (c::r))&&(c::r).all aU&&decide (97<=c.toNat)
def ai(s:aF)(sort:Int):List Bs:=
 if sort=1 then s.lessons.map qx.name else if sort=2 then s.slots.map ma.name else if sort=3 then s.ah.map qi.name else if sort=4 then s.people.map sG.name else if sort=5 then s.groups.map qm.name
 else if sort=6 then(List.range 7).map (fun i=>[100,97,121,UInt8.ofNat (48+i)]) else if sort=7 then(List.range 8).map (fun i=>[104,111,117,115,101,UInt8.ofNat (48+i)]) else []
def bA(s:aF)(sort:Int):Nat:=(ai s sort).length
theorem fq(s:aF)(sort:Int):bA s sort=if sort=1 then s.lessons.length else if sort=2 then s.slots.length else if sort=3 then s.ah.length else if sort=4 then s.people.length else if sort=5 then s.groups.length else if sort=6 then 7 else if sort=7 then 8 else 0:=by
 unfold bA ai
 repeat' split
 all_goals simp
def dZ(n:Int):List Int->Int->Bool
 |[],_=>true
 |x::r,last=>if x<=last∨n<=x then false else dZ n r x
def cK(l:List Int)(n:Int):Bool:=dZ n l (-1)
def aX(n most:Int):Bool:=decide (0<=n)&&decide (n<=most)
def ax:List Bs->List Bs->Bool
 |_,[]=>true
 |met,x::r=>!(met.contains x)&&df x&&ax (met++[x]) r
def bJ:List (Int×Int)->List ma->Bool
 |_,[]=>true
 |met,x::r=>!(met.contains (x.day,x.hour))&&aX x.day 6&&aX x.hour 11&&bJ (met++[(x.day,x.hour)]) r
def fJ(slots:Int)(x:qi):Bool:=!(aX x.house 7)||!(aX x.seats 1000)||!(cK x.shut slots)
def dH(slots:Int)(x:sG):Bool:=!(cK x.away slots)
def eF(x:qm):Bool:=!(aX x.size 1000)
def dV(people groups:Int)(x:qx):Bool:=!(cK x.who people)||!(cK x.groups groups)
def bE(s:aF):Int:=
 if !(ax [] (ai s 1)&&ax [] (ai s 2)&&ax [] (ai s 3)&&ax [] (ai s 4)&&ax [] (ai s 5)) then 1
 else if !(bJ [] s.slots) then 1
 else if s.slots.length=0∨s.ah.length=0 then 1
 else if s.ah.any (fJ s.slots.length)||s.people.any (dH s.slots.length)||s.groups.any eF||s.lessons.any (dV s.people.length s.groups.length) then 1
 else if 50<s.slots.length∨32<s.ah.length∨64<s.people.length∨64<s.groups.length∨64<s.lessons.length then 2 else 0
def TL(s:aF)(p:Pt):Bool:=!(decide (0<=p.slot)&&decide (p.slot<s.slots.length))||!(decide (0<=p.room)&&decide (p.room<s.ah.length))
def Jd(s:aF)(w:List Pt):Int:=
 if bE s≠0 then bE s else if w.length≠s.lessons.length∨w.any (TL s)=true then 40 else 0
def dW(k:Int):Option Nat:=
 if k<1∨17<k then none else if k<=9 then some 0 else if k=10 then some 1 else if k<=13 then some 2 else some 1
def bZ(k:Int):Bool:=decide (3<=k)&&decide (k<=9)
def cZ(k:Int):Bool:=decide (14<=k)&&decide (k<=17)
def dL(k:Int):Bool:=decide (k=16)||decide (k=17)
def dn(n:Int):Bool:=decide (0<=n)&&decide (n<=1099511627776)
def cmpL:List Bs:=[[61],[33,61],[60],[60,61],[62],[62,61]]
def aA(t:bH):Bool:=if t.kind=1 then t.name.isEmpty&&dn t.n else decide (2<=t.kind)&&decide (t.kind<=7)&&aR t.name&&decide (t.n=0)
def aL(b:aD):Bool:=aR b.name&&decide (1<=b.sort)&&decide (b.sort<=7)
def oJ(f:ae):Bool:=
 (dW f.kind==some f.l.length)&&(f.terms.isEmpty||bZ f.kind)&&(f.binds.isEmpty||cZ f.kind)&&(decide (f.n=0)||dL f.kind)&&(f.name.isEmpty||decide (f.kind=9))
def aH(f:ae):Bool:=
 oJ f&&
  (if f.kind=9/\cmpL.contains f.name=false then false
   else if bZ f.kind then decide (f.terms.length=2)&&f.terms.all (fun t=>aA t&&(decide (f.kind=9)||decide (t.kind=2)))
   else if cZ f.kind then decide (0<f.binds.length)&&decide (f.binds.length<=6)&&f.binds.all aL&&dn f.n
   else true)
theorem ll(kind:Int)(name:Bs)(n:Int)(terms:List bH)(binds:List aD)(l:List ae):oJ (.mk kind name n terms binds l)=
  ((dW kind==some l.length)&&(terms.isEmpty||bZ kind)&&(binds.isEmpty||cZ kind)&&(decide (n=0)||dL kind)&&(name.isEmpty||decide (kind=9))):=rfl
theorem jD(kind:Int)(name:Bs)(n:Int)(terms:List bH)(binds:List aD)(l:List ae):aH (.mk kind name n terms binds l)=
  (oJ (.mk kind name n terms binds l)&&
  (if kind=9/\cmpL.contains name=false then false
   else if bZ kind then decide (terms.length=2)&&terms.all (fun t=>aA t&&(decide (kind=9)||decide (t.kind=2)))
   else if cZ kind then decide (0<binds.length)&&decide (binds.length<=6)&&binds.all aL&&dn n
   else true)):=rfl
mutual
def aJ:ae->List ae
 | .mk kind name n terms binds l=>.mk kind name n terms binds l::dU l
def dU:List ae->List ae
 |[]=>[]
 |f::r=>aJ f++dU r
end
def aM(f:ae):Int:=if(aJ f).all aH=false then 1 else if 256<f.size∨24<f.depth then 2 else 0
def dF(a:List aD)(name:Bs):Option Nat:=a.findIdx? (fun b=>b.name==name)
def kZ(a:List aD):Bool:=(List.range a.length).all (fun i=>match a[i]? with|some b=>aL b&&(dF a b.name==some i)|none=>true)
def ji(k:Int):Int×Int:=if k=3 then(2,6) else if k=4 then(2,8) else if k=5 then(3,7) else if k=6 then(3,8) else if k=7 then(1,8) else(0,0)
def gz(k:Int):Int×Int:=if k=3 then(1,2) else if k=4 then(1,3) else if k=5 then(4,1) else if k=6 then(5,1) else if k=7 then(4,2) else if k=8 then(3,2) else(0,0)
def aP(a:List aD)(t:bH):Int×Int:=
 if t.kind=1 then(8,0) else
  match dF a t.name with
  |none=>(0,81)
  |some n=>match a[n]? with
   |none=>(0,81)
   |some b=>if t.kind=2 then(b.sort,0) else if(ji t.kind).1≠b.sort then(0,80) else((ji t.kind).2,0)
def gI(a:List aD)(name:Bs)(t u:bH):Int:=
 if(aP a t).2≠0 then(aP a t).2 else if(aP a u).2≠0 then(aP a u).2
 else if(aP a t).1≠(aP a u).1∨¬((aP a t).1=8∨(aP a t).1=2∨(aP a t).1=6∨name=[61]∨name=[33,61]) then 80 else 0
def gJ(a:List aD)(kind:Int)(t u:bH):Int:=
 if(aP a t).2≠0 then(aP a t).2 else if(aP a t).1≠(gz kind).1 then 80
 else if(aP a u).2≠0 then(aP a u).2 else if(aP a u).1≠(gz kind).2 then 80 else 0
def dE:List aD->List aD->Option (List aD)
 |a,[]=>some a
 |a,b::r=>if(dF a b.name).isSome then none else dE (a++[b]) r
mutual
def eH:List aD->ae->Int
 |a,.mk kind name _ terms binds l=>
  match terms with
  |t::u::_=>if kind=9 then gI a name t u else gJ a kind t u
  |_=>match dE a binds with
   |none=>82
   |some b=>iX b l
def iX:List aD->List ae->Int
 |_,[]=>0
 |a,f::r=>if eH a f≠0 then eH a f else iX a r
end
theorem oM(a:List aD)(kind:Int)(name:Bs)(n:Int)(binds:List aD)(l:List ae):eH a (.mk kind name n [] binds l)=(match dE a binds with|none=>82|some b=>iX b l):=by
 rw[eH];intro t u r h;cases h
theorem sj(a:List aD)(kind:Int)(name:Bs)(n:Int)(t u:bH)(r:List bH)(binds:List aD)(l:List ae):eH a (.mk kind name n (t::u::r) binds l)=if kind=9 then gI a name t u else gJ a kind t u:=by
 rw[eH]
def dK(r:bq):Int:=
 if aL ⟨r.name,1⟩=false∨r.weight<(if r.hard then 0 else 1)∨(if r.hard then 0 else 1000)<r.weight∨6<r.each.length∨r.each.all aL=false then 1
 else if aM r.body≠0 then aM r.body else if kZ r.each=false then 82 else eH r.each r.body
def fM:List Bs->List bq->Nat->Int×Int
 |_,[],_=>(0,0)
 |met,r::l,at_=>if dK r≠0 then(at_,dK r) else if met.contains r.name then(at_,82) else fM (met++[r.name]) l (at_+1)
def iI(l:List bq):Int×Int:=fM [] l 0
def jK(env:List Ev):List aD:=env.map (fun x=>⟨x.name,x.sort⟩)
def Ko(s:aF)(x:Ev):Bool:=decide (x.at_<0)||decide ((bA s x.sort:Int)<=x.at_)
def uV(s:aF)(env:List Ev):Bool:=kZ (jK env)&&!(env.any (Ko s))
def p8(s:aF)(l:List aD):List Nat:=l.map (fun b=>bA s b.sort)
def jY(a b:Nat):Nat:=min (a*b) 1048577
def nQ(s:aF)(l:List aD):Nat:=(p8 s l).foldl jY 1
def kD:List Nat->List (List Nat)
 |[]=>[[]]
 |k::r=>(List.range k).flatMap (fun i=>(kD r).map (i:: ·))
mutual
def iD(s:aF):ae->Nat
 | .mk _ _ _ _ binds l=>min (jY (uM s l 0) (nQ s binds)+1) 1048577
def uM(s:aF):List ae->Nat->Nat
 |[],n=>n
 |f::r,n=>uM s r (min (n+iD s f) 1048577)
end
def tJ(env:List Ev)(l:List aD)(t:List Nat):List Ev:=env++(l.zip t).map (fun p=>⟨p.1.name,p.1.sort,(p.2:Int)⟩)
def tX(env:List Ev)(name:Bs):Ev:=(env.find? (fun x=>x.name==name)).getD ⟨[],0,0⟩
def FV(s:aF)(i:Int):ma:=s.slots[i.toNat]?.getD ⟨[],0,0⟩
def PS(s:aF)(i:Int):qi:=s.ah[i.toNat]?.getD ⟨[],0,0,[]⟩
def OY(s:aF)(lesson:Int):Int:=
 if lesson<0∨(s.lessons.length:Int)<=lesson then 0
 else((s.lessons[lesson.toNat]?.getD ⟨[],[],[]⟩).groups.map (fun(g:Int)=>if 0<=g/\g<(s.groups.length:Int) then(s.groups[g.toNat]?.getD ⟨[],0⟩).size else(0:Int))).sum
def E5(s:aF)(env:List Ev)(t:bH):Int:=
 if t.kind=1 then t.n
 else if t.kind=3 then(FV s (tX env t.name).at_).day
 else if t.kind=4 then(FV s (tX env t.name).at_).hour
 else if t.kind=5 then(PS s (tX env t.name).at_).house
 else if t.kind=6 then(PS s (tX env t.name).at_).seats
 else if t.kind=7 then OY s (tX env t.name).at_
 else if(tX env t.name).sort=2 then(FV s (tX env t.name).at_).day*12+(FV s (tX env t.name).at_).hour
 else(tX env t.name).at_
def wh(kind n:Int)(yes all:Nat):Bool:=
 if kind=14 then yes==all else if kind=15 then decide (0<yes) else if kind=16 then decide (n<=yes) else decide ((yes:Int)<=n)
structure lF (s:aF) (w:List Pt) (env:List Ev) (f:ae):Prop where
 TV:Jd s w=0
 may:uV s env=true
 formed:(aJ f).all aH=true
 size:f.size<=256
 depth:f.depth<=24
 walk:eH (jK env) f=0
 Px:iD s f<=1048576
theorem iH:aM f=0↔(aJ f).all aH=true/\f.size<=256/\f.depth<=24:=by
 unfold aM;cases h:(aJ f).all aH
 ·simp
 ·simp only[Bool.true_eq_false,if_false,true_and];by_cases h2:256<f.size∨24<f.depth
  ·rw[if_pos h2];constructor
   ·intro h;cases h
   ·rintro⟨_,_⟩;omega
  ·rw[if_neg h2];constructor
   ·intro _;omega
   ·intro _;rfl
theorem kW{n:Bs}:dF a n=none↔n∉a.map aD.name:=by
 unfold dF;rw[List.findIdx?_eq_none_iff];simp only[List.mem_map,not_exists,not_and,beq_eq_false_iff_ne,ne_eq]
 try exact Iff.rfl
theorem jC{n:Bs}:dF a n=some i↔ ∃h:i<a.length,a[i].name=n/\∀j (hj:j<i),(a[j]'(by omega)).name≠n:=by
 unfold dF;rw[List.findIdx?_eq_some_iff_getElem];constructor
 ·rintro⟨h,h1,h2⟩;exact⟨h,by simpa using h1,fun j hj=>by simpa using h2 j hj⟩
 ·rintro⟨h,h1,h2⟩;exact⟨h,by simpa using h1,fun j hj=>by simpa using h2 j hj⟩
theorem vM:kZ a=true↔(∀b∈a,aL b=true)/\(a.map aD.name).Nodup:=by
 unfold kZ;rw[List.all_eq_true];simp only[List.mem_range];constructor
 ·intro h;have key:∀i (hi:i<a.length),aL a[i]=true/\dF a a[i].name=some i:=fun i hi=>by
   have:=h i hi;rw[List.getElem?_eq_getElem hi] at this;simpa using this
  refine⟨fun b hb=>?_,?_⟩
  ·obtain⟨i,hi,rfl⟩:=List.mem_iff_getElem.1 hb;exact(key i hi).1
  ·rw[List.nodup_iff_pairwise_ne,List.pairwise_iff_getElem];intro i j hi hj hij e;simp at hi hj;obtain⟨_,_,h3⟩:=jC.1 (key j hj).2;exact h3 i hij (by simpa using e)
 ·rintro⟨h1,h2⟩ i hi;rw[List.getElem?_eq_getElem hi];simp only[Bool.and_eq_true,beq_iff_eq];refine⟨h1 _ (List.getElem_mem hi),jC.2 ⟨hi,rfl,fun j hj e=>?_⟩⟩;rw[List.nodup_iff_pairwise_ne,List.pairwise_iff_getElem] at h2;exact h2 j i (by simp;omega) (by simpa using hi) hj (by simpa using e)
theorem Hq:kZ (a++[b])=true↔kZ a=true/\aL b=true/\dF a b.name=none:=by
 rw[vM,vM,kW];simp only[List.mem_append,List.mem_singleton,List.map_append,List.map_cons,List.map_nil,List.nodup_append];constructor
 ·rintro⟨h1,h2,_,h3⟩;exact⟨⟨fun c hc=>h1 c (.inl hc),h2⟩,h1 b (.inr rfl),fun hb=>h3 _ hb _ (by simp) rfl⟩
 ·rintro⟨⟨h1,h2⟩,h3,h4⟩;refine⟨fun c hc=>?_,h2,by simp,fun x hx y hy e=>?_⟩
  ·rcases hc with hc|rfl
   ·exact h1 c hc
   ·exact h3
  ·subst hy;subst e;exact h4 hx
theorem mh(env:List Ev)(x:Ev):jK (env++[x])=jK env++[⟨x.name,x.sort⟩]:=by simp[jK]
theorem uW{x:Ev}(h:uV s env=true)(h1:aL ⟨x.name,x.sort⟩=true)(h2:dF (jK env) x.name=none)(h3:0<=x.at_)(h4:x.at_<bA s x.sort):uV s (env++[x])=true:=by
 unfold uV at h ⊢;rw[Bool.and_eq_true] at h ⊢;rw[mh];refine⟨Hq.2 ⟨h.1,h1,h2⟩,?_⟩;rw[List.any_append];have:Ko s x=false:=by unfold Ko;simp;omega
 have h5:=h.2;rw[Bool.not_eq_true'] at h5;simp[h5,this]
def vZ(kind n:Int)(b:aD)(f:ae):ae:=.mk kind [] n [] [b] [f]
theorem Ik(hk:kind=16){b:aD}{f:ae}(h:(aJ (vZ kind n b f)).all aH=true):dn n=true/\aL b=true/\(aJ f).all aH=true:=by
 subst hk;rw[vZ,aJ,dU,dU,List.append_nil,List.all_cons,Bool.and_eq_true] at h;refine⟨?_,?_,h.2⟩
 ·have:=h.1;unfold aH at this;simp[ae.kind,bZ,cZ,ae.n,ae.binds] at this;exact this.2.2
 ·have:=h.1;unfold aH at this;simp[ae.kind,bZ,cZ,ae.n,ae.binds] at this;exact this.2.1
theorem Eh:eH a (vZ kind n b f)=0↔dF a b.name=none/\eH (a++[b]) f=0:=by
 rw[vZ,oM];simp only[dE];cases hf:dF a b.name with
 |none=>
  simp only[iX];by_cases h0:eH (a++[b]) f=0<;>simp[h0]
 |some i=>simp
mutual
theorem xQ(s:aF):∀f:ae,iD s f<=1048577
 | .mk _ _ _ _ _ _=>by rw[iD];omega
end
theorem lF.part(h:lF s w env (vZ 16 n b f))(i:Nat)(hi:i<bA s b.sort):lF s w (env++[⟨b.name,b.sort,(i:Int)⟩]) f:=by
 obtain⟨g1,g2,g3⟩:=Ik rfl h.formed;obtain⟨g4,g5⟩:=Eh.1 h.walk;have hs:=h.size;have hd:=h.depth;have hb:=h.Px;simp only[vZ,ae.size,ae.depth,bF,bQ] at hs hd;simp only[vZ,iD,uM,nQ,p8,List.map_cons,List.map_nil,List.foldl_cons,List.foldl_nil,jY] at hb;have hl:=xQ s f;refine⟨h.TV,uW h.may g2 g4 (by simp) (by simpa using hi),g3,by omega,by omega,by rw[mh];exact g5,?_⟩;by_cases hlt:iD s f<=1048576
 ·exact hlt
 ·exfalso;have e:iD s f=1048577:=by omega
  rw[e] at hb;have h1:min (0+1048577) 1048577=1048577:=by omega
  rw[h1,Nat.one_mul] at hb;have h2:1<=min (bA s b.sort) 1048577:=by omega
  have h3:1048577<=1048577*min (bA s b.sort) 1048577:=Nat.le_mul_of_pos_right _ (by omega);omega
def jr(a:List aD)(n:Bs):Option Int:=(a.find? (fun b=>b.name==n)).map aD.sort
def sH(a a':List aD):Prop:=∀n,jr a n=jr a' n
theorem qU(a c:List aD)(n:Bs):jr (a++c) n=(jr a n).or (jr c n):=by
 unfold jr;rw[List.find?_append];cases a.find? (fun b=>b.name==n)<;>simp
theorem sH.append(h:sH a a')(c:List aD):sH (a++c) (a'++c):=fun n=>by rw[qU,qU,h n]
theorem kU{n:Bs}:(dF a n).isSome=(jr a n).isSome:=by
 unfold dF jr;rw[Option.isSome_map]
 induction a with
 |nil=>rfl
 |cons b r ih=>
  rw[List.findIdx?_cons,List.find?_cons];cases h:b.name==n
  ·simp[ih]
  ·simp
theorem xV{n:Bs}(h:dF a n=some i):∃hi:i<a.length,jr a n=some a[i].sort:=by
 obtain⟨hi,h1,h2⟩:=jC.1 h;refine⟨hi,?_⟩;unfold jr;have:a.find? (fun b=>b.name==n)=some a[i]:=by
  rw[List.find?_eq_some_iff_getElem];exact⟨by simpa using h1,i,hi,rfl,fun j hj=>by simpa using h2 j hj⟩
 rw[this];rfl
def ME(o:Option Int)(k:Int):Int×Int:=match o with|none=>(0,81)|some s=>if k=2 then(s,0) else if(ji k).1≠s then(0,80) else((ji k).2,0)
theorem p9(a:List aD)(t:bH):aP a t=if t.kind=1 then(8,0) else ME (jr a t.name) t.kind:=by
 unfold aP;split
 ·rfl
 ·cases h:dF a t.name with
  |none=>
   have h1:=kU (a:=a) (n:=t.name);rw[h] at h1;cases h2:jr a t.name with
   |none=>rfl
   |some s=>rw[h2] at h1;cases h1
  |some i=>
   obtain⟨hi,h2⟩:=xV h;simp only[h2,List.getElem?_eq_getElem hi,ME]
theorem sH.sort(h:sH a a')(t:bH):aP a t=aP a' t:=by rw[p9,p9,h]
theorem sH.bind{a a':List aD}(h:sH a a'):∀(l:List aD),(dE a l=none/\dE a' l=none)∨(dE a l=some (a++l)/\dE a' l=some (a'++l))
 |[]=>.inr (by simp[dE])
 |b::r=>by
  have e:(dF a b.name).isSome=(dF a' b.name).isSome:=by rw[kU,kU,h]
  simp only[dE];by_cases hs:(dF a b.name).isSome=true
  ·rw[if_pos hs,if_pos (by rw[<-e];exact hs)];exact .inl ⟨rfl,rfl⟩
  ·rw[if_neg hs,if_neg (by rw[<-e];exact hs)];have:=sH.bind (h.append [b]) r;simpa using this
def uH(e e':List Ev):Prop:=∀n:Bs,e.find? (fun x=>x.name==n)=e'.find? (fun x=>x.name==n)
theorem uH.append(h:uH e e')(c:List Ev):uH (e++c) (e'++c):=fun n=>by rw[List.find?_append,List.find?_append,h n]
theorem uH.of(h:uH e e')(n:Bs):tX e n=tX e' n:=by unfold tX;rw[h n]
theorem uH.value(h:uH e e')(s:aF)(t:bH):E5 s e t=E5 s e' t:=by unfold E5;rw[h.of]
theorem rV{α:Type}(n:Int)(l:List α)(p:α->Bool):wh 15 n (l.countP p) l.length=l.any p:=by
 unfold wh;rw[if_neg (by decide),if_pos rfl,Bool.eq_iff_iff,decide_eq_true_eq,List.countP_pos_iff,List.any_eq_true]
def BH(name:Bs):Bs:=if name=[61] then [33,61] else if name=[33,61] then [61] else if name=[60] then [62,61] else if name=[62,61] then [60] else if name=[60,61] then [62] else if name=[62] then [60,61] else []
theorem pF:∀l:List Nat,(kD l).length=l.prod
 |[]=>rfl
 |k::r=>by
  rw[kD,List.prod_cons,<-pF r];generalize kD r=t
  suffices h:∀m:List Nat,(m.flatMap (fun i=>t.map (i:: ·))).length=m.length*t.length by simpa using h (List.range k)
  intro m
  induction m with
  |nil=>simp
  |cons x m ih=>rw[List.flatMap_cons,List.length_append,ih,List.length_map,List.length_cons,Nat.add_mul];omega
theorem o5(B:Nat):∀(l:List Nat) (n:Nat),n<=1048577->l.foldl jY n<=1048577
 |[],n,h=>h
 |k::r,n,h=>by rw[List.foldl_cons];exact o5 B r _ (by unfold jY;omega)
theorem LA(s:aF)(l:List aD):nQ s l<=1048577:=o5 0 _ _ (by omega)
theorem vg:∀(l:List Nat) (n:Nat),l.foldl jY n<=1048576->l.foldl jY n=n*l.prod∨(l.prod=0/\l.foldl jY n=0)
 |[],n,_=>by simp
 |k::r,n,h=>by
  rw[List.foldl_cons] at h ⊢;rw[List.prod_cons];rcases vg r _ h with e|⟨e1,e2⟩
  ·by_cases hm:n*k<=1048577
   ·left;rw[e];unfold jY;rw[Nat.min_eq_left hm,Nat.mul_assoc]
   ·have ht:jY n k=1048577:=by unfold jY;omega
    by_cases hp:r.prod=0
    ·right;rw[hp];exact⟨by simp,by rw[e,hp];simp⟩
    ·exfalso;rw[e,ht] at h;have:1048577<=1048577*r.prod:=Nat.le_mul_of_pos_right _ (by omega);omega
  ·right;exact⟨by rw[e1];simp,e2⟩
theorem zB{l:List aD}(h:nQ s l<=1048576):(kD (p8 s l)).length=nQ s l:=by
 rw[pF];unfold nQ at h ⊢;rcases vg _ _ h with e|⟨e1,e2⟩
 ·rw[e];omega
 ·rw[e1,e2]
structure Qr (r:bq):Prop where
 formed:(aJ r.body).all aH=true
 size:r.body.size<=256
 depth:r.body.depth<=24
 may:kZ r.each=true
 walk:eH r.each r.body=0
 each:r.each.length<=6
theorem EY{r:bq}(h:dK r=0):Qr r:=by
 unfold dK at h;generalize (if r.hard=true then(0:Int) else 1)=lo at h;generalize (if r.hard=true then(0:Int) else 1000)=hi at h;by_cases h1:aL ⟨r.name,1⟩=false∨r.weight<lo∨hi<r.weight∨6<r.each.length∨r.each.all aL=false
 ·rw[if_pos h1] at h;cases h
 rw[if_neg h1] at h;by_cases h2:aM r.body≠0
 ·rw[if_pos h2] at h;exact absurd h h2
 rw[if_neg h2] at h;by_cases h3:kZ r.each=false
 ·rw[if_pos h3] at h;cases h
 rw[if_neg h3] at h;obtain⟨g1,g2,g3⟩:=iH.1 (Decidable.byContradiction h2);simp only[not_or] at h1;exact⟨g1,g2,g3,by simpa using h3,h,by omega⟩
theorem yJ:∀(l:List ae) (a:List aD),iX a l=0->∀g∈l,eH a g=0
 |f::r,a,h,g,hg=>by
  rw[iX] at h;by_cases h1:eH a f≠0
  ·rw[if_pos h1] at h;exact absurd h h1
  ·rw[if_neg h1] at h;rcases List.mem_cons.1 hg with rfl|hg
   ·exact Decidable.byContradiction h1
   ·exact yJ r a h g hg
theorem vT:∀(l:List ae),(dU l).all aH=true->∀g∈l,(aJ g).all aH=true
 |f::r,h,g,hg=>by
  rw[dU,List.all_append,Bool.and_eq_true] at h;rcases List.mem_cons.1 hg with rfl|hg
  ·exact h.1
  ·exact vT r h.2 g hg
theorem vk:∀(l:List ae) (g:ae),g∈l->g.size<=bF l/\g.depth<=bQ l
 |f::r,g,hg=>by
  rw[bF,bQ];rcases List.mem_cons.1 hg with rfl|hg
  ·omega
  ·have:=vk r g hg;omega
theorem lF.inv{fl:List ae}(h:lF s w env (.mk kind name n [] binds fl)):
  aH (.mk kind name n [] binds fl)=true/\(dU fl).all aH=true/\∃bs,dE (jK env) binds=some bs/\iX bs fl=0:=by
 have h1:=h.formed;rw[aJ,List.all_cons,Bool.and_eq_true] at h1;refine⟨h1.1,h1.2,?_⟩;have h2:=h.walk;rw[oM] at h2;cases hb:dE (jK env) binds with
 |none=>rw[hb] at h2;cases h2
 |some bs=>rw[hb] at h2;exact⟨bs,rfl,h2⟩
theorem Jk(env:List Ev)(b:aD)(r:List aD)(i:Nat)(u:List Nat):tJ env (b::r) (i::u)=tJ (env++[⟨b.name,b.sort,(i:Int)⟩]) r u:=by
 unfold tJ;simp
theorem BG{s:aF}:∀(binds:List aD) (env:List Ev) (t:List Nat) (bs:List aD),uV s env=true->binds.all aL=true->dE (jK env) binds=some bs->t∈kD (p8 s binds)->uV s (tJ env binds t)=true/\jK (tJ env binds t)=bs
 |[],env,t,bs,h,_,hb,_=>by
  rw[dE] at hb;cases hb;have e:tJ env [] t=env:=by unfold tJ;simp
  rw[e];exact⟨h,rfl⟩
 |b::r,env,t,bs,h,hk,hb,ht=>by
  rw[List.all_cons,Bool.and_eq_true] at hk;rw[dE] at hb;split at hb
  ·cases hb
  ·rename_i hf;rw[p8,List.map_cons,kD,List.mem_flatMap] at ht;obtain⟨i,hi,hu⟩:=ht;obtain⟨u,hu',rfl⟩:=List.mem_map.1 hu;rw[Jk];have hm:uV s (env++[⟨b.name,b.sort,(i:Int)⟩])=true:=uW h hk.1 (by simpa using hf) (by simp) (by have:=List.mem_range.1 hi;simpa using this);exact BG r _ u bs hm hk.2 (by rw[mh];exact hb) hu'
theorem lF.inst{g:ae}(h:lF s w env (.mk kind name n [] binds [g]))(hk:binds.all aL=true):
  nQ s binds<=1048576/\∀t∈kD (p8 s binds),lF s w (tJ env binds t) g:=by
 obtain⟨h1,h2,bs,h3,h4⟩:=h.inv;have hs:=h.size;have hd:=h.depth;have hb:=h.Px;rw[ae.size] at hs;rw[ae.depth] at hd;have hm:=vk [g] g (by simp);rw[iD,uM,uM] at hb;have hl:=xQ s g;have hp:1<=iD s g:=by cases g;rw[iD];omega
 have KW:=LA s binds;unfold jY at hb;have e0:min (0+iD s g) 1048577=iD s g:=by omega
 rw[e0] at hb;have PI:nQ s binds<=1048576:=by
  have:nQ s binds<=iD s g*nQ s binds:=Nat.le_mul_of_pos_left _ (by omega);omega
 refine⟨PI,fun t ht=>?_⟩;have hlen:=zB PI;have hpos:0<(kD (p8 s binds)).length:=List.length_pos_of_mem ht;have hbr:iD s g<=1048576:=by
  have:iD s g<=iD s g*nQ s binds:=Nat.le_mul_of_pos_right _ (by omega);omega
 obtain⟨m1,m2⟩:=BG binds env t bs h.may hk h3 ht;exact⟨h.TV,m1,vT _ h2 g (by simp),by omega,by omega,by rw[m2];exact yJ _ _ h4 g (by simp),hbr⟩
end Go.aa
