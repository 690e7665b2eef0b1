/- Parts of the proof. -/
import Derived.Test.YtncnnbmeacpboaaGreatDoorO04
import Derived.Lib.IndexMore
set_option linter.unusedVariables false
set_option linter.unusedSimpArgs false
namespace Go.aa
variable {f:ag} {a a' binds:List aH} {i:Nat} {b:aH} {s:ax} {env e e':List Ev} {kind n:Int} {w:List J8} {name:Bs}
def jq:Bs:=[32,104,97,114,100,32,115,111,102,116,32,101,97,99,104,32,97,108,108,32,115,111,109,101,32,108,101,97,115,116,32,109,111,115,116,32,116,114,117,101,32,102,97,108,115,101,32,97,116,32,105,110,32,116,101,97,99,104,101,115,32,97,116,116,101,110,100,115,32,97,119,97,121,32,115,104,117,116,32,100,97,121,32,104,111,117,114,32,104,111,117,115,101,32,115,101,97,116,115,32,115,105,122,101,32,108,101,115,115,111,110,32,115,108,111,116,32,114,111,111,109,32,112,101,114,115,111,110,32,103,114,111,117,112,32]
def dJ:List Bs:=[[104,97,114,100],[115,111,102,116],[101,97,99,104],[97,108,108],[115,111,109,101],[108,101,97,115,116],[109,111,115,116],[116,114,117,101],[102,97,108,115,101],[97,116],[105,110],[116,101,97,99,104,101,115],[97,116,116,101,110,100,115],[97,119,97,121],[115,104,117,116],[100,97,121],[104,111,117,114],[104,111,117,115,101],[115,101,97,116,115],[115,105,122,101],[108,101,115,115,111,110],[115,108,111,116],[114,111,111,109],[112,101,114,115,111,110],[103,114,111,117,112]]
def dQ(s:Bs):Bool:=match s with
 |[]=>false
 |c::r=>decide ((c::r).length<=64)&&decide (97<=c.toNat)&&(c::r).all bE&&!(Lib.contains jq (32::((c::r)++[32])))
def bJ(s:Bs):Bool:=match s with
 |[]=>false
 |c::r=>decide ((c::r).length<=64)&&!(dJ.contains (c::r))&&(c::r).all bE&&decide (97<=c.toNat)
def aj(s:ax)(sort:Int):List Bs:=
 if sort=1 then s.lessons.map nH.name else if sort=2 then s.slots.map l6.name else if sort=3 then s.ah.map nE.name else if sort=4 then s.people.map pF.name else if sort=5 then s.groups.map oI.name
 else if sort=6 then(List.range 7).map (fun i=>[100,97,121,UInt8.ofNat (48+i)]) else if sort=7 then(List.range 8).map (fun i=>[104,111,117,115,101,UInt8.ofNat (48+i)]) else []
def bS(s:ax)(sort:Int):Nat:=(aj s sort).length
theorem eD(s:ax)(sort:Int):bS s sort=if sort=1 then s.lessons.length else if sort=2 then s.slots.length else if sort=3 then s.ah.length else if sort=4 then s.people.length else if sort=5 then s.groups.length else if sort=6 then 7 else if sort=7 then 8 else 0:=by
 unfold bS aj
 repeat' split
 all_goals simp
def gW(n:Int):List Int->Int->Bool
 |[],_=>true
 |x::r,last=>if x<=last∨n<=x then false else gW n r x
def iO(l:List Int)(n:Int):Bool:=gW n l (-1)
def dm(n most:Int):Bool:=decide (0<=n)&&decide (n<=most)
def aF:List Bs->List Bs->Bool
 |_,[]=>true
 |met,x::r=>!(met.contains x)&&dQ x&&aF (met++[x]) r
def fw:List (Int×Int)->List l6->Bool
 |_,[]=>true
 |met,x::r=>!(met.contains (x.day,x.hour))&&dm x.day 6&&dm x.hour 11&&fw (met++[(x.day,x.hour)]) r
def kg(slots:Int)(x:nE):Bool:=!(dm x.house 7)||!(dm x.seats 1000)||!(iO x.shut slots)
def iG(slots:Int)(x:pF):Bool:=!(iO x.away slots)
def jC(x:oI):Bool:=!(dm x.size 1000)
def iF(people groups:Int)(x:nH):Bool:=!(iO x.who people)||!(iO x.groups groups)
def bM(s:ax):Int:=
 if !(aF [] (aj s 1)&&aF [] (aj s 2)&&aF [] (aj s 3)&&aF [] (aj s 4)&&aF [] (aj s 5)) then 1
 else if !(fw [] s.slots) then 1
 else if s.slots.length=0∨s.ah.length=0 then 1
 else if s.ah.any (kg s.slots.length)||s.people.any (iG s.slots.length)||s.groups.any jC||s.lessons.any (iF s.people.length s.groups.length) then 1
 else if 50<s.slots.length∨32<s.ah.length∨64<s.people.length∨64<s.groups.length∨64<s.lessons.length then 2 else 0
def Oe(s:ax)(p:J8):Bool:=!(decide (0<=p.slot)&&decide (p.slot<s.slots.length))||!(decide (0<=p.room)&&decide (p.room<s.ah.length))
def DX(s:ax)(w:List J8):Int:=
 if bM s≠0 then bM s else if w.length≠s.lessons.length∨w.any (Oe s)=true then 40 else 0
def dV(k:Int):Option Nat:=
 if k<1∨17<k then none else if k<=9 then some 0 else if k=10 then some 1 else if k<=13 then some 2 else some 1
def dL(k:Int):Bool:=decide (3<=k)&&decide (k<=9)
def dP(k:Int):Bool:=decide (14<=k)&&decide (k<=17)
def iX(k:Int):Bool:=decide (k=16)||decide (k=17)
def eu(n:Int):Bool:=decide (0<=n)&&decide (n<=1099511627776)
def cmpL:List Bs:=[[61],[33,61],[60],[60,61],[62],[62,61]]
def bf(t:bV):Bool:=if t.kind=1 then t.name.isEmpty&&eu t.n else decide (2<=t.kind)&&decide (t.kind<=7)&&bJ t.name&&decide (t.n=0)
def bu(b:aH):Bool:=bJ b.name&&decide (1<=b.sort)&&decide (b.sort<=7)
def lY(f:ag):Bool:=
 (dV f.kind==some f.l.length)&&(f.terms.isEmpty||dL f.kind)&&(f.binds.isEmpty||dP f.kind)&&(decide (f.n=0)||iX f.kind)&&(f.name.isEmpty||decide (f.kind=9))
def aD(f:ag):Bool:=
 lY f&&
  (if f.kind=9/\cmpL.contains f.name=false then false
   else if dL f.kind then decide (f.terms.length=2)&&f.terms.all (fun t=>bf t&&(decide (f.kind=9)||decide (t.kind=2)))
   else if dP f.kind then decide (0<f.binds.length)&&decide (f.binds.length<=6)&&f.binds.all bu&&eu f.n
   else true)
theorem ng(kind:Int)(name:Bs)(n:Int)(terms:List bV)(binds:List aH)(l:List ag):lY (.mk kind name n terms binds l)=
  ((dV kind==some l.length)&&(terms.isEmpty||dL kind)&&(binds.isEmpty||dP kind)&&(decide (n=0)||iX kind)&&(name.isEmpty||decide (kind=9))):=rfl
theorem kC(kind:Int)(name:Bs)(n:Int)(terms:List bV)(binds:List aH)(l:List ag):aD (.mk kind name n terms binds l)=
  (lY (.mk kind name n terms binds l)&&
  (if kind=9/\cmpL.contains name=false then false
   else if dL kind then decide (terms.length=2)&&terms.all (fun t=>bf t&&(decide (kind=9)||decide (t.kind=2)))
   else if dP kind then decide (0<binds.length)&&decide (binds.length<=6)&&binds.all bu&&eu n
   else true)):=rfl
mutual
def aN:ag->List ag
 | .mk kind name n terms binds l=>.mk kind name n terms binds l::df l
def df:List ag->List ag
 |[]=>[]
 |f::r=>aN f++df r
end
def aX(f:ag):Int:=if(aN f).all aD=false then 1 else if 256<f.size∨24<f.depth then 2 else 0
def d9(a:List aH)(name:Bs):Option Nat:=a.findIdx? (fun b=>b.name==name)
def qy(a:List aH):Bool:=(List.range a.length).all (fun i=>match a[i]? with|some b=>bu b&&(d9 a b.name==some i)|none=>true)
def ib(k:Int):Int×Int:=if k=3 then(2,6) else if k=4 then(2,8) else if k=5 then(3,7) else if k=6 then(3,8) else if k=7 then(1,8) else(0,0)
def jA(k:Int):Int×Int:=if k=3 then(1,2) else if k=4 then(1,3) else if k=5 then(4,1) else if k=6 then(5,1) else if k=7 then(4,2) else if k=8 then(3,2) else(0,0)
def aU(a:List aH)(t:bV):Int×Int:=
 if t.kind=1 then(8,0) else
  match d9 a t.name with
  |none=>(0,81)
  |some n=>match a[n]? with
   |none=>(0,81)
   |some b=>if t.kind=2 then(b.sort,0) else if(ib t.kind).1≠b.sort then(0,80) else((ib t.kind).2,0)
def jk(a:List aH)(name:Bs)(t u:bV):Int:=
 if(aU a t).2≠0 then(aU a t).2 else if(aU a u).2≠0 then(aU a u).2
 else if(aU a t).1≠(aU a u).1∨¬((aU a t).1=8∨(aU a t).1=2∨(aU a t).1=6∨name=[61]∨name=[33,61]) then 80 else 0
def jB(a:List aH)(kind:Int)(t u:bV):Int:=
 if(aU a t).2≠0 then(aU a t).2 else if(aU a t).1≠(jA kind).1 then 80
 else if(aU a u).2≠0 then(aU a u).2 else if(aU a u).1≠(jA kind).2 then 80 else 0
def bY:List aH->List aH->Option (List aH)
 |a,[]=>some a
 |a,b::r=>if(d9 a b.name).isSome then none else bY (a++[b]) r
mutual
def eP:List aH->ag->Int
 |a,.mk kind name _ terms binds l=>
  match terms with
  |t::u::_=>if kind=9 then jk a name t u else jB a kind t u
  |_=>match bY a binds with
   |none=>82
   |some b=>jg b l
def jg:List aH->List ag->Int
 |_,[]=>0
 |a,f::r=>if eP a f≠0 then eP a f else jg a r
end
theorem pg(a:List aH)(kind:Int)(name:Bs)(n:Int)(binds:List aH)(l:List ag):eP a (.mk kind name n [] binds l)=(match bY a binds with|none=>82|some b=>jg b l):=by
 rw[eP];intro t u r h;cases h
theorem uZ(a:List aH)(kind:Int)(name:Bs)(n:Int)(t u:bV)(r:List bV)(binds:List aH)(l:List ag):eP a (.mk kind name n (t::u::r) binds l)=if kind=9 then jk a name t u else jB a kind t u:=by
 rw[eP]
def dG(r:aV):Int:=
 if bu ⟨r.name,1⟩=false∨r.weight<(if r.hard then 0 else 1)∨(if r.hard then 0 else 1000)<r.weight∨6<r.each.length∨r.each.all bu=false then 1
 else if aX r.body≠0 then aX r.body else if qy r.each=false then 82 else eP r.each r.body
def fA:List Bs->List aV->Nat->Int×Int
 |_,[],_=>(0,0)
 |met,r::l,at_=>if dG r≠0 then(at_,dG r) else if met.contains r.name then(at_,82) else fA (met++[r.name]) l (at_+1)
def j6(l:List aV):Int×Int:=fA [] l 0
def iM(env:List Ev):List aH:=env.map (fun x=>⟨x.name,x.sort⟩)
def E9(s:ax)(x:Ev):Bool:=decide (x.at_<0)||decide ((bS s x.sort:Int)<=x.at_)
def ry(s:ax)(env:List Ev):Bool:=qy (iM env)&&!(env.any (E9 s))
def nu(s:ax)(l:List aH):List Nat:=l.map (fun b=>bS s b.sort)
def jc(a b:Nat):Nat:=min (a*b) 1048577
def lH(s:ax)(l:List aH):Nat:=(nu s l).foldl jc 1
def jl:List Nat->List (List Nat)
 |[]=>[[]]
 |k::r=>(List.range k).flatMap (fun i=>(jl r).map (i:: ·))
mutual
def fT(s:ax):ag->Nat
 | .mk _ _ _ _ binds l=>min (jc (qU s l 0) (lH s binds)+1) 1048577
def qU(s:ax):List ag->Nat->Nat
 |[],n=>n
 |f::r,n=>qU s r (min (n+fT s f) 1048577)
end
def qi(env:List Ev)(l:List aH)(t:List Nat):List Ev:=env++(l.zip t).map (fun p=>⟨p.1.name,p.1.sort,(p.2:Int)⟩)
def qw(env:List Ev)(name:Bs):Ev:=(env.find? (fun x=>x.name==name)).getD ⟨[],0,0⟩
def Br(s:ax)(i:Int):l6:=s.slots[i.toNat]?.getD ⟨[],0,0⟩
def Kq(s:ax)(i:Int):nE:=s.ah[i.toNat]?.getD ⟨[],0,0,[]⟩
def JB(s:ax)(lesson:Int):Int:=
 if lesson<0∨(s.lessons.length:Int)<=lesson then 0
 else((s.lessons[lesson.toNat]?.getD ⟨[],[],[]⟩).groups.map (fun(g:Int)=>if 0<=g/\g<(s.groups.length:Int) then(s.groups[g.toNat]?.getD ⟨[],0⟩).size else(0:Int))).sum
def AA(s:ax)(env:List Ev)(t:bV):Int:=
 if t.kind=1 then t.n
 else if t.kind=3 then(Br s (qw env t.name).at_).day
 else if t.kind=4 then(Br s (qw env t.name).at_).hour
 else if t.kind=5 then(Kq s (qw env t.name).at_).house
 else if t.kind=6 then(Kq s (qw env t.name).at_).seats
 else if t.kind=7 then JB s (qw env t.name).at_
 else if(qw env t.name).sort=2 then(Br s (qw env t.name).at_).day*12+(Br s (qw env t.name).at_).hour
 else(qw env t.name).at_
def sw(kind n:Int)(yes all:Nat):Bool:=
 if kind=14 then yes==all else if kind=15 then decide (0<yes) else if kind=16 then decide (n<=yes) else decide ((yes:Int)<=n)
structure jI (s:ax) (w:List J8) (env:List Ev) (f:ag):Prop where
 Oj:DX s w=0
 may:ry s env=true
 formed:(aN f).all aD=true
 size:f.size<=256
 depth:f.depth<=24
 walk:eP (iM env) f=0
 Kb:fT s f<=1048576
theorem jR:aX f=0↔(aN f).all aD=true/\f.size<=256/\f.depth<=24:=by
 unfold aX;cases h:(aN f).all aD
 ·simp
 ·simp only[Bool.true_eq_false,if_false,true_and];by_cases h2:256<f.size∨24<f.depth
  ·rw[if_pos h2];constructor
   ·intro h;cases h
   ·rintro⟨_,_⟩;omega
  ·rw[if_neg h2];constructor
   ·intro _;omega
   ·intro _;rfl
theorem zD{n:Bs}:d9 a n=none↔n∉a.map aH.name:=by
 unfold d9;rw[List.findIdx?_eq_none_iff];simp only[List.mem_map,not_exists,not_and,beq_eq_false_iff_ne,ne_eq]
 try exact Iff.rfl
theorem mX{n:Bs}:d9 a n=some i↔ ∃h:i<a.length,a[i].name=n/\∀j (hj:j<i),(a[j]'(by omega)).name≠n:=by
 unfold d9;rw[List.findIdx?_eq_some_iff_getElem];constructor
 ·rintro⟨h,h1,h2⟩;exact⟨h,by simpa using h1,fun j hj=>by simpa using h2 j hj⟩
 ·rintro⟨h,h1,h2⟩;exact⟨h,by simpa using h1,fun j hj=>by simpa using h2 j hj⟩
theorem rT:qy a=true↔(∀b∈a,bu b=true)/\(a.map aH.name).Nodup:=by
 unfold qy;rw[List.all_eq_true];simp only[List.mem_range];constructor
 ·intro h;have key:∀i (hi:i<a.length),bu a[i]=true/\d9 a a[i].name=some i:=fun i hi=>by
   have:=h i hi;rw[List.getElem?_eq_getElem hi] at this;simpa using this
  refine⟨fun b hb=>?_,?_⟩
  ·obtain⟨i,hi,rfl⟩:=List.mem_iff_getElem.1 hb;exact(key i hi).1
  ·rw[List.nodup_iff_pairwise_ne,List.pairwise_iff_getElem];intro i j hi hj hij e;simp at hi hj;obtain⟨_,_,h3⟩:=mX.1 (key j hj).2;exact h3 i hij (by simpa using e)
 ·rintro⟨h1,h2⟩ i hi;rw[List.getElem?_eq_getElem hi];simp only[Bool.and_eq_true,beq_iff_eq];refine⟨h1 _ (List.getElem_mem hi),mX.2 ⟨hi,rfl,fun j hj e=>?_⟩⟩;rw[List.nodup_iff_pairwise_ne,List.pairwise_iff_getElem] at h2;exact h2 j i (by simp;omega) (by simpa using hi) hj (by simpa using e)
theorem CQ:qy (a++[b])=true↔qy a=true/\bu b=true/\d9 a b.name=none:=by
 rw[rT,rT,zD];simp only[List.mem_append,List.mem_singleton,List.map_append,List.map_cons,List.map_nil,List.nodup_append];constructor
 ·rintro⟨h1,h2,_,h3⟩;exact⟨⟨fun c hc=>h1 c (.inl hc),h2⟩,h1 b (.inr rfl),fun hb=>h3 _ hb _ (by simp) rfl⟩
 ·rintro⟨⟨h1,h2⟩,h3,h4⟩;refine⟨fun c hc=>?_,h2,by simp,fun x hx y hy e=>?_⟩
  ·rcases hc with hc|rfl
   ·exact h1 c hc
   ·exact h3
  ·subst hy;subst e;exact h4 hx
theorem kz(env:List Ev)(x:Ev):iM (env++[x])=iM env++[⟨x.name,x.sort⟩]:=by simp[iM]
theorem rz{x:Ev}(h:ry s env=true)(h1:bu ⟨x.name,x.sort⟩=true)(h2:d9 (iM env) x.name=none)(h3:0<=x.at_)(h4:x.at_<bS s x.sort):ry s (env++[x])=true:=by
 unfold ry at h ⊢;rw[Bool.and_eq_true] at h ⊢;rw[kz];refine⟨CQ.2 ⟨h.1,h1,h2⟩,?_⟩;rw[List.any_append];have:E9 s x=false:=by unfold E9;simp;omega
 have h5:=h.2;rw[Bool.not_eq_true'] at h5;simp[h5,this]
def su(kind n:Int)(b:aH)(f:ag):ag:=.mk kind [] n [] [b] [f]
theorem C9(hk:kind=16){b:aH}{f:ag}(h:(aN (su kind n b f)).all aD=true):eu n=true/\bu b=true/\(aN f).all aD=true:=by
 subst hk;rw[su,aN,df,df,List.append_nil,List.all_cons,Bool.and_eq_true] at h;refine⟨?_,?_,h.2⟩
 ·have:=h.1;unfold aD at this;simp[ag.kind,dL,dP,ag.n,ag.binds] at this;exact this.2.2
 ·have:=h.1;unfold aD at this;simp[ag.kind,dL,dP,ag.n,ag.binds] at this;exact this.2.1
theorem zZ:eP a (su kind n b f)=0↔d9 a b.name=none/\eP (a++[b]) f=0:=by
 rw[su,pg];simp only[bY];cases hf:d9 a b.name with
 |none=>
  simp only[jg];by_cases h0:eP (a++[b]) f=0<;>simp[h0]
 |some i=>simp
mutual
theorem uw(s:ax):∀f:ag,fT s f<=1048577
 | .mk _ _ _ _ _ _=>by rw[fT];omega
end
theorem jI.part(h:jI s w env (su 16 n b f))(i:Nat)(hi:i<bS s b.sort):jI s w (env++[⟨b.name,b.sort,(i:Int)⟩]) f:=by
 obtain⟨g1,g2,g3⟩:=C9 rfl h.formed;obtain⟨g4,g5⟩:=zZ.1 h.walk;have hs:=h.size;have hd:=h.depth;have hb:=h.Kb;simp only[su,ag.size,ag.depth,aY,bN] at hs hd;simp only[su,fT,qU,lH,nu,List.map_cons,List.map_nil,List.foldl_cons,List.foldl_nil,jc] at hb;have hl:=uw s f;refine⟨h.Oj,rz h.may g2 g4 (by simp) (by simpa using hi),g3,by omega,by omega,by rw[kz];exact g5,?_⟩;by_cases hlt:fT s f<=1048576
 ·exact hlt
 ·exfalso;have e:fT s f=1048577:=by omega
  rw[e] at hb;have h1:min (0+1048577) 1048577=1048577:=by omega
  rw[h1,Nat.one_mul] at hb;have h2:1<=min (bS s b.sort) 1048577:=by omega
  have h3:1048577<=1048577*min (bS s b.sort) 1048577:=Nat.le_mul_of_pos_right _ (by omega);omega
def kT(a:List aH)(n:Bs):Option Int:=(a.find? (fun b=>b.name==n)).map aH.sort
def pG(a a':List aH):Prop:=∀n,kT a n=kT a' n
theorem oh(a c:List aH)(n:Bs):kT (a++c) n=(kT a n).or (kT c n):=by
 unfold kT;rw[List.find?_append];cases a.find? (fun b=>b.name==n)<;>simp
theorem pG.append(h:pG a a')(c:List aH):pG (a++c) (a'++c):=fun n=>by rw[oh,oh,h n]
theorem mW{n:Bs}:(d9 a n).isSome=(kT a n).isSome:=by
 unfold d9 kT;rw[Option.isSome_map]
 induction a with
 |nil=>rfl
 |cons b r ih=>
  rw[List.findIdx?_cons,List.find?_cons];cases h:b.name==n
  ·simp[ih]
  ·simp
theorem Cj{n:Bs}(h:d9 a n=some i):∃hi:i<a.length,kT a n=some a[i].sort:=by
 obtain⟨hi,h1,h2⟩:=mX.1 h;refine⟨hi,?_⟩;unfold kT;have:a.find? (fun b=>b.name==n)=some a[i]:=by
  rw[List.find?_eq_some_iff_getElem];exact⟨by simpa using h1,i,hi,rfl,fun j hj=>by simpa using h2 j hj⟩
 rw[this];rfl
def Kr(o:Option Int)(k:Int):Int×Int:=match o with|none=>(0,81)|some s=>if k=2 then(s,0) else if(ib k).1≠s then(0,80) else((ib k).2,0)
theorem sK(a:List aH)(t:bV):aU a t=if t.kind=1 then(8,0) else Kr (kT a t.name) t.kind:=by
 unfold aU;split
 ·rfl
 ·cases h:d9 a t.name with
  |none=>
   have h1:=mW (a:=a) (n:=t.name);rw[h] at h1;cases h2:kT a t.name with
   |none=>rfl
   |some s=>rw[h2] at h1;cases h1
  |some i=>
   obtain⟨hi,h2⟩:=Cj h;simp only[h2,List.getElem?_eq_getElem hi,Kr]
theorem pG.sort(h:pG a a')(t:bV):aU a t=aU a' t:=by rw[sK,sK,h]
theorem pG.bind{a a':List aH}(h:pG a a'):∀(l:List aH),(bY a l=none/\bY a' l=none)∨(bY a l=some (a++l)/\bY a' l=some (a'++l))
 |[]=>.inr (by simp[bY])
 |b::r=>by
  have e:(d9 a b.name).isSome=(d9 a' b.name).isSome:=by rw[mW,mW,h]
  simp only[bY];by_cases hs:(d9 a b.name).isSome=true
  ·rw[if_pos hs,if_pos (by rw[<-e];exact hs)];exact .inl ⟨rfl,rfl⟩
  ·rw[if_neg hs,if_neg (by rw[<-e];exact hs)];have:=pG.bind (h.append [b]) r;simpa using this
def qN(e e':List Ev):Prop:=∀n:Bs,e.find? (fun x=>x.name==n)=e'.find? (fun x=>x.name==n)
theorem qN.append(h:qN e e')(c:List Ev):qN (e++c) (e'++c):=fun n=>by rw[List.find?_append,List.find?_append,h n]
theorem qN.of(h:qN e e')(n:Bs):qw e n=qw e' n:=by unfold qw;rw[h n]
theorem qN.value(h:qN e e')(s:ax)(t:bV):AA s e t=AA s e' t:=by unfold AA;rw[h.of]
theorem o6{α:Type}(n:Int)(l:List α)(p:α->Bool):sw 15 n (l.countP p) l.length=l.any p:=by
 unfold sw;rw[if_neg (by decide),if_pos rfl,Bool.eq_iff_iff,decide_eq_true_eq,List.countP_pos_iff,List.any_eq_true]
def yg(name:Bs):Bs:=if name=[61] then [33,61] else if name=[33,61] then [61] else if name=[60] then [62,61] else if name=[62,61] then [60] else if name=[60,61] then [62] else if name=[62] then [60,61] else []
theorem mI:∀l:List Nat,(jl l).length=l.prod
 |[]=>rfl
 |k::r=>by
  rw[jl,List.prod_cons,<-mI r];generalize jl r=t
  suffices h:∀m:List Nat,(m.flatMap (fun i=>t.map (i:: ·))).length=m.length*t.length by simpa using h (List.range k)
  intro m
  induction m with
  |nil=>simp
  |cons x m ih=>rw[List.flatMap_cons,List.length_append,ih,List.length_map,List.length_cons,Nat.add_mul];omega
theorem mq(B:Nat):∀(l:List Nat) (n:Nat),n<=1048577->l.foldl jc n<=1048577
 |[],n,h=>h
 |k::r,n,h=>by rw[List.foldl_cons];exact mq B r _ (by unfold jc;omega)
theorem Gd(s:ax)(l:List aH):lH s l<=1048577:=mq 0 _ _ (by omega)
theorem rG:∀(l:List Nat) (n:Nat),l.foldl jc n<=1048576->l.foldl jc n=n*l.prod∨(l.prod=0/\l.foldl jc n=0)
 |[],n,_=>by simp
 |k::r,n,h=>by
  rw[List.foldl_cons] at h ⊢;rw[List.prod_cons];rcases rG r _ h with e|⟨e1,e2⟩
  ·by_cases hm:n*k<=1048577
   ·left;rw[e];unfold jc;rw[Nat.min_eq_left hm,Nat.mul_assoc]
   ·have ht:jc n k=1048577:=by unfold jc;omega
    by_cases hp:r.prod=0
    ·right;rw[hp];exact⟨by simp,by rw[e,hp];simp⟩
    ·exfalso;rw[e,ht] at h;have:1048577<=1048577*r.prod:=Nat.le_mul_of_pos_right _ (by omega);omega
  ·right;exact⟨by rw[e1];simp,e2⟩
theorem vZ{l:List aH}(h:lH s l<=1048576):(jl (nu s l)).length=lH s l:=by
 rw[mI];unfold lH at h ⊢;rcases rG _ _ h with e|⟨e1,e2⟩
 ·rw[e];omega
 ·rw[e1,e2]
structure KR (r:aV):Prop where
 formed:(aN r.body).all aD=true
 size:r.body.size<=256
 depth:r.body.depth<=24
 may:qy r.each=true
 walk:eP r.each r.body=0
 each:r.each.length<=6
theorem Ay{r:aV}(h:dG r=0):KR r:=by
 unfold dG at h;generalize (if r.hard=true then(0:Int) else 1)=lo at h;generalize (if r.hard=true then(0:Int) else 1000)=hi at h;by_cases h1:bu ⟨r.name,1⟩=false∨r.weight<lo∨hi<r.weight∨6<r.each.length∨r.each.all bu=false
 ·rw[if_pos h1] at h;cases h
 rw[if_neg h1] at h;by_cases h2:aX r.body≠0
 ·rw[if_pos h2] at h;exact absurd h h2
 rw[if_neg h2] at h;by_cases h3:qy r.each=false
 ·rw[if_pos h3] at h;cases h
 rw[if_neg h3] at h;obtain⟨g1,g2,g3⟩:=jR.1 (Decidable.byContradiction h2);simp only[not_or] at h1;exact⟨g1,g2,g3,by simpa using h3,h,by omega⟩
theorem u7:∀(l:List ag) (a:List aH),jg a l=0->∀g∈l,eP a g=0
 |f::r,a,h,g,hg=>by
  rw[jg] at h;by_cases h1:eP a f≠0
  ·rw[if_pos h1] at h;exact absurd h h1
  ·rw[if_neg h1] at h;rcases List.mem_cons.1 hg with rfl|hg
   ·exact Decidable.byContradiction h1
   ·exact u7 r a h g hg
theorem rX:∀(l:List ag),(df l).all aD=true->∀g∈l,(aN g).all aD=true
 |f::r,h,g,hg=>by
  rw[df,List.all_append,Bool.and_eq_true] at h;rcases List.mem_cons.1 hg with rfl|hg
  ·exact h.1
  ·exact rX r h.2 g hg
theorem rH:∀(l:List ag) (g:ag),g∈l->g.size<=aY l/\g.depth<=bN l
 |f::r,g,hg=>by
  rw[aY,bN];rcases List.mem_cons.1 hg with rfl|hg
  ·omega
  ·have:=rH r g hg;omega
theorem jI.inv{fl:List ag}(h:jI s w env (.mk kind name n [] binds fl)):
  aD (.mk kind name n [] binds fl)=true/\(df fl).all aD=true/\∃bs,bY (iM env) binds=some bs/\jg bs fl=0:=by
 have h1:=h.formed;rw[aN,List.all_cons,Bool.and_eq_true] at h1;refine⟨h1.1,h1.2,?_⟩;have h2:=h.walk;rw[pg] at h2;cases hb:bY (iM env) binds with
 |none=>rw[hb] at h2;cases h2
 |some bs=>rw[hb] at h2;exact⟨bs,rfl,h2⟩
theorem Ea(env:List Ev)(b:aH)(r:List aH)(i:Nat)(u:List Nat):qi env (b::r) (i::u)=qi (env++[⟨b.name,b.sort,(i:Int)⟩]) r u:=by
 unfold qi;simp
theorem x9{s:ax}:∀(binds:List aH) (env:List Ev) (t:List Nat) (bs:List aH),ry s env=true->binds.all bu=true->bY (iM env) binds=some bs->t∈jl (nu s binds)->ry s (qi env binds t)=true/\iM (qi env binds t)=bs
 |[],env,t,bs,h,_,hb,_=>by
  rw[bY] at hb;cases hb;have e:qi env [] t=env:=by unfold qi;simp
  rw[e];exact⟨h,rfl⟩
 |b::r,env,t,bs,h,hk,hb,ht=>by
  rw[List.all_cons,Bool.and_eq_true] at hk;rw[bY] at hb;split at hb
  ·cases hb
  ·rename_i hf;rw[nu,List.map_cons,jl,List.mem_flatMap] at ht;obtain⟨i,hi,hu⟩:=ht;obtain⟨u,hu',rfl⟩:=List.mem_map.1 hu;rw[Ea];have hm:ry s (env++[⟨b.name,b.sort,(i:Int)⟩])=true:=rz h hk.1 (by simpa using hf) (by simp) (by have:=List.mem_range.1 hi;simpa using this);exact x9 r _ u bs hm hk.2 (by rw[kz];exact hb) hu'
theorem jI.inst{g:ag}(h:jI s w env (.mk kind name n [] binds [g]))(hk:binds.all bu=true):
  lH s binds<=1048576/\∀t∈jl (nu s binds),jI s w (qi env binds t) g:=by
 obtain⟨h1,h2,bs,h3,h4⟩:=h.inv;have hs:=h.size;have hd:=h.depth;have hb:=h.Kb;rw[ag.size] at hs;rw[ag.depth] at hd;have hm:=rH [g] g (by simp);rw[fT,qU,qU] at hb;have hl:=uw s g;have hp:1<=fT s g:=by cases g;rw[fT];omega
 have FO:=Gd s binds;unfold jc at hb;have e0:min (0+fT s g) 1048577=fT s g:=by omega
 rw[e0] at hb;have Kj:lH s binds<=1048576:=by
  have:lH s binds<=fT s g*lH s binds:=Nat.le_mul_of_pos_left _ (by omega);omega
 refine⟨Kj,fun t ht=>?_⟩;have hlen:=vZ Kj;have hpos:0<(jl (nu s binds)).length:=List.length_pos_of_mem ht;have hbr:fT s g<=1048576:=by
  have:fT s g<=fT s g*lH s binds:=Nat.le_mul_of_pos_right _ (by omega);omega
 obtain⟨m1,m2⟩:=x9 binds env t bs h.may hk h3 ht;exact⟨h.Oj,m1,rX _ h2 g (by simp),by omega,by omega,by rw[m2];exact u7 _ _ h4 g (by simp),hbr⟩
end Go.aa
