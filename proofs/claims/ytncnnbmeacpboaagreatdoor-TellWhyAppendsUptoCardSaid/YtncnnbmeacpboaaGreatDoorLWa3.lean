/- Parts of the proof. -/
import Derived.Test.YtncnnbmeacpboaaGreatDoorO07
import Derived.Test.YtncnnbmeacpboaaGreatDoorLWa1
set_option linter.unusedVariables false
set_option linter.unusedSimpArgs false
namespace Go.aa
variable {l r a b c m:List Tok} {s:Bs} {yes out:Int} {x:List Ins} {y:oJ} {more:List Int}
theorem mF:∀(l:List aV) (met:List Bs) (k:Nat),(fA met l k).2=0->(∀r∈l,dG r=0/\r.name∉met)/\(l.map aV.name).Nodup
 |[],_,_,_=>by simp
 |r::l,met,k,h=>by
  rw[fA] at h;by_cases h1:dG r=0
  ·rw[if_neg (by simpa using h1)] at h;by_cases h2:met.contains r.name=true
   ·rw[if_pos h2] at h;cases h
   ·rw[if_neg h2] at h;obtain⟨g1,g2⟩:=mF l _ _ h;have h3:r.name∉met:=by simpa using h2
    refine⟨?_,?_⟩
    ·intro x hx;rcases List.mem_cons.1 hx with rfl|hx
     ·exact⟨h1,h3⟩
     ·have g:=g1 x hx;simp only[List.mem_append,not_or] at g;exact⟨g.1,g.2.1⟩
    ·rw[List.map_cons,List.nodup_cons];refine⟨?_,g2⟩;intro hm;obtain⟨x,hx,e⟩:=List.mem_map.1 hm;have g:=(g1 x hx).2;simp only[List.mem_append,not_or,List.mem_singleton] at g;exact g.2 e
  ·rw[if_pos h1] at h;exact absurd h h1
theorem pQ:∀(l met:List Bs),aF met l=true->(∀x∈l,dQ x=true/\x∉met)/\l.Nodup
 |[],_,_=>by simp
 |x::r,met,h=>by
  rw[aF] at h;simp only[Bool.and_eq_true,Bool.not_eq_true',List.contains_eq_mem,decide_eq_false_iff_not] at h;obtain⟨⟨h1,h2⟩,h3⟩:=h;obtain⟨g1,g2⟩:=pQ r _ h3;refine⟨?_,?_⟩
  ·intro y hy;rcases List.mem_cons.1 hy with rfl|hy
   ·exact⟨h2,h1⟩
   ·have g:=g1 y hy;simp only[List.mem_append,not_or] at g;exact⟨g.1,g.2.1⟩
  ·rw[List.nodup_cons];refine⟨?_,g2⟩;intro hm;have g:=(g1 x hm).2;simp at g
theorem IJ{s:ax}{sort at_:Int}(h:cK s sort at_≠[]):0<=at_/\(aj s sort)[at_.toNat]?=some (cK s sort at_):=by
 by_cases h0:at_<0
 ·exact absurd (by unfold cK;rw[if_pos h0]) h
 refine⟨by omega,?_⟩;have e:cK s sort at_=((aj s sort)[at_.toNat]?).getD []:=by unfold cK;rw[if_neg h0]
 rw[e] at h ⊢;cases k:(aj s sort)[at_.toNat]? with
 |none=>rw[k] at h;exact absurd rfl h
 |some x=>rfl
theorem Bb{s:ax}:∀(b:List aH) (q:List Int) (ns:List Bs),iv s b q=some ns->ns.length=b.length
 |[],q,ns,h=>by simp[iv] at h;simp[<-h]
 |b::r,[],ns,h=>by simp[iv] at h
 |b::r,i::q,ns,h=>by
  rw[iv] at h;split at h
  ·cases h
  ·cases k:iv s r q with
   |none=>rw[k] at h;cases h
   |some l=>rw[k] at h;injection h with h;rw[<-h];simp[Bb r q l k]
theorem sD(m:List (Bs×Bs)):∀l:List ag,yF m l=l.map (fq m)
 |[]=>rfl
 |f::r=>by rw[yF,sD m r,List.map_cons]
mutual
theorem uS(m:List (Bs×Bs)):∀f:ag,aN (fq m f)=(aN f).map (fq m)
 | .mk kind name n terms binds l=>by rw[fq,aN,aN,List.map_cons,rY m l,fq]
theorem rY(m:List (Bs×Bs)):∀l:List ag,df (yF m l)=(df l).map (fq m)
 |[]=>rfl
 |f::r=>by rw[yF,df,df,List.map_append,uS m f,rY m r]
end
mutual
theorem yO(m:List (Bs×Bs)):∀f:ag,(fq m f).size=f.size
 | .mk kind name n terms binds l=>by rw[fq,ag.size,ag.size,rJ m l]
theorem rJ(m:List (Bs×Bs)):∀l:List ag,aY (yF m l)=aY l
 |[]=>rfl
 |f::r=>by rw[yF,aY,aY,yO m f,rJ m r]
end
theorem CL{m:List (Bs×Bs)}{n x:Bs}(h:uO m n=some x):∃p∈m,p.2=x:=by
 unfold uO at h;obtain⟨p,hp,e⟩:=Option.map_eq_some_iff.1 h;exact⟨p,List.mem_reverse.1 (List.mem_of_find?_eq_some hp),e⟩
theorem Gz{m:List (Bs×Bs)}{n:Nat}(hm:∀p∈m,p.2.length<=n){t:bV}(ht:t.name.length<=n):(lK m t).name.length<=n:=by
 unfold lK;split
 ·rename_i x e;obtain⟨p,hp,e⟩:=CL e;rw[<-e];exact hm p hp
 ·exact ht
theorem Da(m:List (Bs×Bs))(f:ag):(fq m f).kind=f.kind/\(fq m f).name=f.name/\(fq m f).n=f.n/\(fq m f).terms=f.terms.map (lK m)/\(fq m f).binds=f.binds/\(fq m f).l=f.l.map (fq m):=by
 cases f;rw[fq,sD];exact⟨rfl,rfl,rfl,rfl,rfl,rfl⟩
theorem sF{s:ax}{l:List aV}(h:okF s l=0):bM s=0/\(∀r∈l,dG r=0)/\(l.map aV.name).Nodup:=by
 have hs:bM s=0:=by
  unfold okF at h;split at h
  ·rename_i g;exact absurd h g
  ·rename_i g;simpa using g
 have hr:(j6 l).2=0:=by unfold okF at h;rw[if_neg (by simp[hs])] at h;exact h
 obtain⟨g1,g2⟩:=mF l [] 0 hr;exact⟨hs,fun r h=>(g1 r h).1,g2⟩
theorem um{r:aV}(h:dG r=0):bu ⟨r.name,1⟩=true/\r.each.all bu=true/\aX r.body=0:=by
 unfold dG at h;by_cases g:bu ⟨r.name,1⟩=false∨r.weight<(if r.hard then 0 else 1)∨(if r.hard then 0 else 1000)<r.weight∨6<r.each.length∨r.each.all bu=false
 ·rw[if_pos g] at h;cases h
 ·rw[if_neg g] at h;have g:=not_or.1 g;have a:=g.1;have b:=(not_or.1 (not_or.1 (not_or.1 g.2).2).2).2;refine⟨by simpa using a,by simpa using b,?_⟩;by_cases k:aX r.body=0
  ·exact k
  ·rw[if_pos k] at h;exact absurd h k
def Kt(l r:List Tok):Prop:=∃p,p≠[]/\(∀t∈p,t.kind≠4)/\l=p++r
def vk(l r:List Tok):Prop:=∃p,(∀t∈p,t.kind≠4)/\l=p++r
theorem Kt.len(h:Kt l r):r.length<l.length:=by
 obtain⟨p,hp,_,rfl⟩:=h;have:=List.length_pos_iff.2 hp;rw[List.length_append];omega
theorem vk.len(h:vk l r):r.length<=l.length:=by
 obtain⟨p,_,rfl⟩:=h;rw[List.length_append];omega
theorem vk.refl(l:List Tok):vk l l:=⟨[],by simp,rfl⟩
theorem rW{p q:List Tok}(h:∀t∈p,t.kind≠4)(k:∀t∈q,t.kind≠4):∀t∈p++q,t.kind≠4:=fun t ht=>(List.mem_append.1 ht).elim (h t) (k t)
theorem Kt.trans(h:Kt a b)(k:vk b c):Kt a c:=by
 obtain⟨p,hp,h1,rfl⟩:=h;obtain⟨q,h2,rfl⟩:=k;exact⟨p++q,by simp[hp],rW h1 h2,by rw[List.append_assoc]⟩
theorem vk.trans(h:vk a b)(k:vk b c):vk a c:=by
 obtain⟨p,h1,rfl⟩:=h;obtain⟨q,h2,rfl⟩:=k;exact⟨p++q,rW h1 h2,by rw[List.append_assoc]⟩
theorem Kt.one{t:Tok}(h:t.kind≠4)(r:List Tok):Kt (t::r) r:=⟨[t],by simp,by simpa using h,rfl⟩
abbrev KT:=Int×Bs
def Is(ks:List KT)(l m:List Tok):Prop:=∃p,p.map kt=ks/\l=p++m
theorem Is.nil:Is [] l m↔l=m:=by
 constructor
 ·rintro⟨p,hp,rfl⟩;rw[List.map_eq_nil_iff] at hp;subst hp;rfl
 ·rintro rfl;exact⟨[],rfl,rfl⟩
theorem Is.cons{k:KT}{ks:List KT}{l m:List Tok}:Is (k::ks) l m↔ ∃t r,l=t::r/\kt t=k/\Is ks r m:=by
 constructor
 ·rintro⟨p,hp,rfl⟩;cases p with
  |nil=>cases hp
  |cons t q=>
   rw[List.map_cons,List.cons.injEq] at hp;exact⟨t,q++m,rfl,hp.1,q,hp.2,rfl⟩
 ·rintro⟨t,r,rfl,rfl,p,rfl,rfl⟩;exact⟨t::p,rfl,rfl⟩
theorem Is.one{k:KT}:Is [k] l m↔ ∃t,l=t::m/\kt t=k:=by
 rw[Is.cons];constructor
 ·rintro⟨t,r,rfl,h,h2⟩;rw[Is.nil] at h2;subst h2;exact⟨t,rfl,h⟩
 ·rintro⟨t,rfl,h⟩;exact⟨t,m,rfl,h,Is.nil.2 rfl⟩
theorem Is.name(h:Is [(1,s)] l m)(hs:dJ.contains s=false):Ko l=.ok s m:=by
 obtain⟨t,rfl,h1⟩:=Is.one.1 h;simp only[kt,Prod.mk.injEq] at h1;rw[Ko,h1.1,h1.2,if_pos ⟨rfl,hs⟩]
theorem vP(s:Bs):bJ s=Gg s:=by
 cases s with
 |nil=>rfl
 |cons c r=>
  rw[bJ,Gg,y8,Bool.eq_iff_iff];simp only[Bool.and_eq_true,decide_eq_true_eq,List.all_cons];have hc:bE c=true->(kJ c=true↔97<=c.toNat):=by
   intro h;simp only[bE,kJ,ku,Bool.or_eq_true,Bool.and_eq_true,decide_eq_true_eq,beq_iff_eq] at h ⊢;constructor
   ·exact fun h=>h.1
   ·intro h97;rcases h with(h|h)|h
    ·exact h
    ·omega
    ·omega
  constructor
  ·rintro⟨⟨⟨h1,h2⟩,h3,h4⟩,h5⟩;exact⟨⟨⟨(hc h3).2 h5,h3,h4⟩,h1⟩,h2⟩
  ·rintro⟨⟨⟨h1,h3,h4⟩,h5⟩,h2⟩;exact⟨⟨⟨h5,h2⟩,h3,h4⟩,(hc h3).1 h1⟩
def Sep(l:Bs):Prop:=∀c r,l=c::r->bE c=false
def Lx(s:Bs)(ks:List KT):Prop:=∀rest at_ acc,Sep rest->∃ts,ts.map kt=ks/\oZ (s++rest) at_ acc=oZ rest (at_+s.length) (acc++ts)
def Lz(s:Bs)(ks:List KT):Prop:=∀rest at_ acc,∃ts,ts.map kt=ks/\oZ (s++rest) at_ acc=oZ rest (at_+s.length) (acc++ts)
def AY(s:Bs):Prop:=∃c r,s=c::r/\bE c=false
theorem Lz.nil:Lz [] []:=fun rest at_ acc=>⟨[],rfl,by simp⟩
theorem Sep.nil:Sep []:=fun _ _ h=>by cases h
theorem Bh{c:UInt8}{r rest:Bs}{k:Int}{at_:Nat}{acc:List Tok}(hs:s=c::r)(hw:pq c=false)(hh:uD c=false)(hn:gG (s++rest)=(k,s,true)):
  ∃ts,ts.map kt=[(k,s)]/\oZ (s++rest) at_ acc=oZ rest (at_+s.length) (acc++ts):=by
 subst hs;rw[List.cons_append] at hn ⊢;refine⟨[⟨k,c::r,at_⟩],rfl,?_⟩;rw[F9 hw hh (by rw[hn]),hn];dsimp only;rw[<-List.cons_append,List.drop_left]
theorem Dq{y:Bs}(hs:s∈cmpL)(hy:y=[]∨∃r,y=32::r):gG (s++y)=(3,s,true):=by
 have hm:s∈jb:=by
  have:∀x∈cmpL,x∈jb:=by decide
  exact this s hs
 have hb:=Ag s hm y hy;have hc:∃c r,s=c::r/\kJ c=false/\ku c=false:=by
  have:∀x∈cmpL,∃c r,x=c::r/\kJ c=false/\ku c=false:=by
   intro x hx;simp only[cmpL,List.mem_cons,List.not_mem_nil,or_false] at hx;rcases hx with rfl|rfl|rfl|rfl|rfl|rfl<;>exact⟨_,_,rfl,rfl,rfl⟩
  exact this s hs
 obtain⟨c,r,rfl,h1,h2⟩:=hc;rw[List.cons_append] at hb ⊢;rw[gG,if_neg (by rw[h1];simp),if_neg (by rw[h2];simp),hb];rfl
theorem Lz.op(hs:cmpL.contains s=true):Lz (s++[32]) [(3,s)]:=fun rest at_ acc=>by
 have hm:s∈cmpL:=by simpa using hs
 have hc:∃c r,s=c::r/\pq c=false/\uD c=false:=by
  simp only[cmpL,List.mem_cons,List.not_mem_nil,or_false] at hm;rcases hm with rfl|rfl|rfl|rfl|rfl|rfl<;>exact⟨_,_,rfl,rfl,rfl⟩
 obtain⟨c,r,he,h1,h2⟩:=hc;obtain⟨t1,h3,h4⟩:=Bh (rest:=32::rest) (at_:=at_) (acc:=acc) he h1 h2 (Dq hm (.inr ⟨rest,rfl⟩));refine⟨t1,h3,?_⟩;rw[List.append_assoc,List.cons_append,List.nil_append,h4,zS (by decide),List.length_append];rfl
theorem LP{l:Bs}(h:Sep l):l=[]∨∃c r,l=c::r/\bE c=false:=by
 cases l with
 |nil=>exact .inl rfl
 |cons c r=>exact .inr ⟨c,r,rfl,h c r rfl⟩
theorem Lx.word(h:y8 s=true):Lx s [(1,s)]:=fun rest at_ acc hr=>by
 cases s with
 |nil=>cases h
 |cons c r=>
  have h0:=h;rw[y8] at h;simp only[Bool.and_eq_true,decide_eq_true_eq] at h;have hc:97<=c.toNat:=by
   have:=h.1.1;simp only[kJ,Bool.and_eq_true,decide_eq_true_eq] at this;exact this.1
  have ht:(c::(r++rest)).takeWhile bE=c::r:=mG bE (c::r) rest h.1.2 (LP hr);refine Bh (c:=c) (r:=r) rfl ?_ ?_ ?_
  ·simp[pq];omega
  ·simp[uD];omega
  ·rw[List.cons_append,gG,if_pos h.1.1,ht,h0]
theorem Lx.named(h:bJ s=true):Lx s [(1,s)]:=by
 rw[vP,Gg] at h;simp only[Bool.and_eq_true] at h;exact .word h.1
theorem hsp(r:Bs):AY (32::r):=⟨32,r,rfl,rfl⟩
theorem hsc{c:UInt8}(h:bE c=false)(r:Bs):AY (c::r):=⟨c,r,rfl,h⟩
theorem nZ{t:List (Bs×Int)}(h:t.all (fun p=>decide (p.1.length<=8))=true)(n:Int):(eZ t n).length<=8:=by
 unfold eZ;cases hf:t.find? (fun p=>p.2==n) with
 |none=>simp
 |some p=>
  have:=List.all_eq_true.1 h p (List.mem_of_find?_eq_some hf);simpa using this
theorem zQ(n:Int):(eZ fo n).length<=8:=nZ (by decide) n
theorem zP(n:Int):(eZ gB n).length<=8:=nZ (by decide) n
theorem zR(n:Int):(eZ gQ n).length<=8:=nZ (by decide) n
theorem CF(n:Int):(eZ eT n).length<=8:=nZ (by decide) n
theorem mh:∀(d n:Nat),n<10 ^ (d+1)->(Lib.decDigits n).length<=d+1
 |0,n,h=>by
  have:n<10:=by simpa using h
  rw[Lib.decDigits,dif_pos this];simp
 |d+1,n,h=>by
  rw[Lib.decDigits];split
  ·simp
  ·have:=mh d (n/10) (by rw[Nat.pow_succ] at h;omega);simp only[List.length_append,List.length_singleton];omega
theorem nM{n:Int}(h0:0<=n)(h:n<=1099511627776):(kr n).length<=13:=mh 12 n.toNat (by
 have:n.toNat<=1099511627776:=by omega
 omega)
theorem uQ(h:bJ s=true):s.length<=64:=by
 cases s with
 |nil=>simp
 |cons c r=>
  rw[bJ] at h;simp only[Bool.and_eq_true,decide_eq_true_eq] at h;exact h.1.1.1
theorem jO{t:bV}(h:bf t=true):(bG t).length<=80:=by
 unfold bG;unfold bf at h;split
 ·rename_i h1;rw[if_pos h1] at h;simp only[eu,Bool.and_eq_true,decide_eq_true_eq] at h;have:=nM h.2.1 h.2.2;omega
 ·rename_i h1;rw[if_neg h1] at h;simp only[Bool.and_eq_true,decide_eq_true_eq] at h;have h2:=uQ h.1.2;split
  ·omega
  ·have:=zR t.kind;simp only[List.length_append,List.length_cons,List.length_nil];omega
theorem qf{b:aH}(h:bu b=true):(kN b).length<=80:=by
 unfold bu at h;simp only[Bool.and_eq_true,decide_eq_true_eq] at h;have:=uQ h.1.1;have:=zQ b.sort;unfold kN;simp only[List.length_append,List.length_cons,List.length_nil];omega
theorem qh:∀ {bs:List aH},bs.all bu=true->(ig bs).length<=82*bs.length
 |[],_=>by simp[ig]
 |b::r,h=>by
  simp only[List.all_cons,Bool.and_eq_true] at h;have h1:=qf h.1;have h2:=qh h.2;rw[ig];simp only[List.length_append,List.length_cons,List.length_nil] at h2 ⊢;omega
theorem wF{bs:List aH}(h:bs.all bu=true)(hl:bs.length<=6):(aQ bs).length<=500:=by
 cases bs with
 |nil=>simp[aQ]
 |cons b r=>
  simp only[List.all_cons,Bool.and_eq_true] at h;have h1:=qf h.1;have h2:=qh h.2;rw[aQ];simp only[List.length_append,List.length_cons] at hl ⊢;omega
theorem IG(h:cmpL.contains s=true):s.length<=2:=by
 have:∀x∈cmpL,x.length<=2:=by decide
 exact this s (by simpa using h)
theorem iK(f:ag)(least:Nat):(aR f least).length<=(dX f).length+2:=by
 unfold aR;split
 ·simp only[List.length_append,List.length_cons,List.length_nil];omega
 ·omega
theorem G7:∀f,wf f->(dX f).length<=600*f.size:=by
 refine Hd ?_ ?_ ?_ ?_ ?_ ?_
 ·rintro k (rfl|rfl)
  ·rw[dU];simp[ag.size,aY]
  ·rw[dU];simp[ag.size,aY]
 ·intro k a b h1 h2 ha hb;rw[oF,if_neg (by omega),if_neg (by omega),if_neg (by omega),if_neg (by omega),if_neg (by omega),if_neg (by omega),if_neg (by omega),if_neg (by omega)];have e1:=jO (t:=⟨2,a,0⟩) (by simp[bf,ha]);have e2:=jO (t:=⟨2,b,0⟩) (by simp[bf,hb]);have e3:=zP k;simp only[List.length_append,List.length_cons,List.length_nil,ag.size,aY];omega
 ·intro s t u hs ht hu;rw[oF,if_neg (by omega),if_neg (by omega),if_pos rfl];have e1:=jO ht;have e2:=jO hu;have e3:=IG hs;simp only[List.length_append,List.length_cons,List.length_nil,ag.size,aY];omega
 ·intro g _ ih;have e:dX (.mk 10 [] 0 [] [] [g])=[33]++aR g 4:=by rw[dU];simp[cB,aR]
  rw[e];have:=iK g 4;simp only[List.length_append,List.length_cons,List.length_nil,ag.size,aY];omega
 ·intro k g g' h1 h2 _ _ ih1 ih2;have:k=11∨k=12∨k=13:=by omega
  rcases this with rfl|rfl|rfl
  ·have e:dX (.mk 11 [] 0 [] [] [g,g'])=aR g 3++([32,38,32]++aR g' 4):=by rw[dU];simp[cB,aR]
   rw[e];have:=iK g 3;have:=iK g' 4;simp only[List.length_append,List.length_cons,List.length_nil,ag.size,aY];omega
  ·have e:dX (.mk 12 [] 0 [] [] [g,g'])=aR g 2++([32,124,32]++aR g' 3):=by rw[dU];simp[cB,aR]
   rw[e];have:=iK g 2;have:=iK g' 3;simp only[List.length_append,List.length_cons,List.length_nil,ag.size,aY];omega
  ·have e:dX (.mk 13 [] 0 [] [] [g,g'])=aR g 2++([32,45,62,32]++aR g' 1):=by rw[dU];simp[cB,aR]
   rw[e];have:=iK g 2;have:=iK g' 1;simp only[List.length_append,List.length_cons,List.length_nil,ag.size,aY];omega
 ·intro k n b bs g h1 h2 hn hm hz hl Lp hbs _ ih;have hat:cB [g] 0 0=dX g:=by rw[o9 [g] 0 0 (by simp)];simp[aR]
  rw[dU,if_neg (by omega),if_neg (by omega),if_neg (by omega),if_neg (by omega),if_neg (by omega),if_neg (by omega),if_neg (by omega),if_pos h1,hat];have e1:=CF k;have e2:=nM hn hm;have e3:(aQ (b::bs)).length<=500:=wF (by simp[Lp,hbs]) (by simp only[List.length_cons];omega);have e4:(if 16<=k then kr n++[32] else []).length<=14:=by split<;>simp<;>omega
  simp only[List.length_append,List.length_cons,List.length_nil,ag.size,aY];omega
theorem JL{s:ax}{l:List aV}(h:(fP yes out s l x y).2≠0):(fP yes out s l x y).1=[]:=by
 unfold fP at h ⊢;by_cases h0:okF s l=0
 ·rw[if_neg (by simpa using h0)] at h ⊢;cases hw:fQ yes out y.kind with
  |none=>rfl
  |some last=>
   rw[hw] at h;simp only at h ⊢;by_cases h1:(y.az.any (dn x)||y.fixes.any (dn x))=true
   ·rw[if_pos h1]
   rw[if_neg h1] at h ⊢;by_cases h2:(ay s l x bX y.az).2=0
   ·rw[if_neg (by simpa using h2)] at h ⊢;by_cases h3:(ay s l x aK y.fixes).2=0
    ·rw[if_neg (by simpa using h3)] at h;exact absurd rfl h
    ·rw[if_pos h3]
   ·rw[if_pos h2]
 ·rw[if_pos h0]
theorem y7{s:ax}{l:List aV}(k:(fP yes out s l x ⟨y.kind,y.az,y.fixes++[more]⟩).2=0):(fP yes out s l x y).2=0:=by
 have h0:=BB k;unfold fP at k ⊢;simp only[h0,ne_eq,not_true_eq_false,if_false] at k ⊢;cases hw:fQ yes out y.kind with
 |none=>rw[hw] at k;cases k
 |some last=>
  rw[hw] at k;simp only at k ⊢;by_cases g2:(y.az.any (dn x)||(y.fixes++[more]).any (dn x))=true
  ·rw[if_pos g2] at k;cases k
  rw[if_neg g2] at k;rw[if_neg (by
   simp only[List.any_append,List.any_cons,List.any_nil,Bool.or_false,Bool.or_eq_true,not_or] at g2 ⊢;exact⟨g2.1,g2.2.1⟩)]
  by_cases g3:(ay s l x bX y.az).2=0
  ·rw[if_neg (by simpa using g3)] at k ⊢;by_cases g4:(ay s l x aK (y.fixes++[more])).2=0
   ·obtain⟨e1,_,_⟩:=lL s l x aK more y.fixes g4;rw[if_neg (by simpa using e1)]
   ·rw[if_pos (by simpa using g4)] at k;exact absurd k g4
  ·rw[if_pos (by simpa using g3)] at k;exact absurd k g3
theorem JM{s:ax}{l:List aV}:
  ((fP yes out s l x y).2≠0∨(fP yes out s l x ⟨y.kind,y.az,y.fixes++[more]⟩).2≠0->(fP yes out s l x ⟨y.kind,y.az,y.fixes++[more]⟩).2≠0/\(fP yes out s l x ⟨y.kind,y.az,y.fixes++[more]⟩).1=[])/\
  ((fP yes out s l x y).2=0->(fP yes out s l x ⟨y.kind,y.az,y.fixes++[more]⟩).2=0->dn x more=false/\(fU s l (dx x more)).2=0/\∃a last,(fP yes out s l x y).1=a++[last]/\(fP yes out s l x ⟨y.kind,y.az,y.fixes++[more]⟩).1=a++(aK::((fU s l (dx x more)).1++[last]))):=by
 refine⟨fun h=>?_,fun h k=>yZ h k⟩;have hb:(fP yes out s l x ⟨y.kind,y.az,y.fixes++[more]⟩).2≠0:=by
  rcases h with h|h
  ·exact fun k=>h (y7 k)
  ·exact h
 exact⟨hb,JL hb⟩
end Go.aa
