/- Parts of the proof. -/
import Derived.Test.YtncnnbmeacpboaaGreatDoorO11
import Derived.Test.YtncnnbmeacpboaaGreatDoorO34
set_option maxRecDepth 100000
set_option linter.unusedVariables false
set_option linter.unusedSimpArgs false
namespace Go.Proofs.YtncnnbmeacpboaaGreatDoor
open Go.ChangeShapes Go.WideShapes Go.ChangeAt Go.RowKit Go.aa
variable {n:Nat} {x:D} {α:Type}
def A9:List TypeId:=[28,22,23,24,25,26,86,88,97,119,90,30,3,9,4,64,62,61,92,60,94,66,29,35,38,33,31]
theorem argTypes:ni Tryz.prog A9=true:=by kernel_rfl
theorem Fu(h:Fits Tryz.prog n 92 x):∃t:bV,x=t.toD:=by
 obtain⟨m,xs,rfl,rfl,hx⟩:=h.struct Tryz.underlying92 (ts:=[3,9,3]) rfl
 match xs,hx with
 |[x0,x1,x2],⟨h0,h1,h2,_⟩=>
  obtain⟨k0,rfl,_⟩:=h0.int Tryz.underlying3;obtain⟨s,rfl,_⟩:=h1.str Tryz.underlying9;obtain⟨k2,rfl,_⟩:=h2.int Tryz.underlying3;obtain⟨l,rfl⟩:=nK s;exact⟨⟨k0,l,k2⟩,rfl⟩
theorem xI(h:Fits Tryz.prog n 94 x):∃t:aH,x=t.toD:=by
 obtain⟨m,xs,rfl,rfl,hx⟩:=h.struct Tryz.underlying94 (ts:=[9,3]) rfl
 match xs,hx with
 |[x0,x1],⟨h0,h1,_⟩=>
  obtain⟨s,rfl,_⟩:=h0.str Tryz.underlying9;obtain⟨k2,rfl,_⟩:=h1.int Tryz.underlying3;obtain⟨l,rfl⟩:=nK s;exact⟨⟨l,k2⟩,rfl⟩
theorem Fs(h:Fits Tryz.prog n 86 x):∃t:l6,x=t.toD:=by
 obtain⟨m,xs,rfl,rfl,hx⟩:=h.struct Tryz.underlying86 (ts:=[9,3,3]) rfl
 match xs,hx with
 |[x0,x1,x2],⟨h0,h1,h2,_⟩=>
  obtain⟨s,rfl,_⟩:=h0.str Tryz.underlying9;obtain⟨k1,rfl,_⟩:=h1.int Tryz.underlying3;obtain⟨k2,rfl,_⟩:=h2.int Tryz.underlying3;obtain⟨l,rfl⟩:=nK s;exact⟨⟨l,k1,k2⟩,rfl⟩
theorem Fe(h:Fits Tryz.prog n 119 x):∃t:oI,x=t.toD:=by
 obtain⟨m,xs,rfl,rfl,hx⟩:=h.struct Tryz.underlying119 (ts:=[9,3]) rfl
 match xs,hx with
 |[x0,x1],⟨h0,h1,_⟩=>
  obtain⟨s,rfl,_⟩:=h0.str Tryz.underlying9;obtain⟨k2,rfl,_⟩:=h1.int Tryz.underlying3;obtain⟨l,rfl⟩:=nK s;exact⟨⟨l,k2⟩,rfl⟩
theorem gF(h:Fits Tryz.prog n 30 x):∃l:List Int,x=.sl (aG l):=by
 obtain⟨l,hl⟩:=h.dR Tryz.underlying30 (f:=D.int .i64) (fun j y _ hy=>by obtain⟨k,rfl,_⟩:=hy.int Tryz.underlying3;exact⟨k,rfl⟩);exact⟨l,hl⟩
theorem Fj(h:Fits Tryz.prog n 88 x):∃t:nE,x=t.toD:=by
 obtain⟨m,xs,rfl,rfl,hx⟩:=h.struct Tryz.underlying88 (ts:=[9,3,3,30]) rfl
 match xs,hx with
 |[x0,x1,x2,x3],⟨h0,h1,h2,h3,_⟩=>
  obtain⟨s,rfl,_⟩:=h0.str Tryz.underlying9;obtain⟨k1,rfl,_⟩:=h1.int Tryz.underlying3;obtain⟨k2,rfl,_⟩:=h2.int Tryz.underlying3;obtain⟨z,rfl⟩:=gF h3;obtain⟨l,rfl⟩:=nK s;exact⟨⟨l,k1,k2,z⟩,rfl⟩
theorem Fh(h:Fits Tryz.prog n 97 x):∃t:pF,x=t.toD:=by
 obtain⟨m,xs,rfl,rfl,hx⟩:=h.struct Tryz.underlying97 (ts:=[9,30]) rfl
 match xs,hx with
 |[x0,x1],⟨h0,h1,_⟩=>
  obtain⟨s,rfl,_⟩:=h0.str Tryz.underlying9;obtain⟨z,rfl⟩:=gF h1;obtain⟨l,rfl⟩:=nK s;exact⟨⟨l,z⟩,rfl⟩
theorem Fg(h:Fits Tryz.prog n 90 x):∃t:nH,x=t.toD:=by
 obtain⟨m,xs,rfl,rfl,hx⟩:=h.struct Tryz.underlying90 (ts:=[9,30,30]) rfl
 match xs,hx with
 |[x0,x1,x2],⟨h0,h1,h2,_⟩=>
  obtain⟨s,rfl,_⟩:=h0.str Tryz.underlying9;obtain⟨z,rfl⟩:=gF h1;obtain⟨z',rfl⟩:=gF h2;obtain⟨l,rfl⟩:=nK s;exact⟨⟨l,z,z'⟩,rfl⟩
theorem Fq(h:Fits Tryz.prog n 28 x):∃t:ax,x=t.toD:=by
 obtain⟨m,xs,rfl,rfl,hx⟩:=h.struct Tryz.underlying28 (ts:=[22,23,24,25,26]) rfl
 match xs,hx with
 |[x0,x1,x2,x3,x4],⟨h0,h1,h2,h3,h4,_⟩=>
  obtain⟨a,rfl⟩:=h0.dR Tryz.underlying22 (f:=l6.toD) (fun j y _ hy=>Fs hy);obtain⟨b,rfl⟩:=h1.dR Tryz.underlying23 (f:=nE.toD) (fun j y _ hy=>Fj hy);obtain⟨c,rfl⟩:=h2.dR Tryz.underlying24 (f:=pF.toD) (fun j y _ hy=>Fh hy);obtain⟨d,rfl⟩:=h3.dR Tryz.underlying25 (f:=oI.toD) (fun j y _ hy=>Fe hy);obtain⟨e,rfl⟩:=h4.dR Tryz.underlying26 (f:=nH.toD) (fun j y _ hy=>Fg hy);exact⟨⟨a,b,c,d,e⟩,rfl⟩
theorem Fb:∀(n:Nat) (x:D),Fits Tryz.prog n 64 x->∃t:ag,x=t.toD:=by
 intro n
 induction n using Nat.strongRecOn with
 |_ n ih=>
  intro x h;obtain⟨m,xs,rfl,rfl,hx⟩:=h.struct Tryz.underlying64 (ts:=[3,9,3,61,60,62]) rfl
  match xs,hx with
  |[x0,x1,x2,x3,x4,x5],⟨h0,h1,h2,h3,h4,h5,_⟩=>
   obtain⟨k0,rfl,_⟩:=h0.int Tryz.underlying3;obtain⟨s,rfl,_⟩:=h1.str Tryz.underlying9;obtain⟨k2,rfl,_⟩:=h2.int Tryz.underlying3;obtain⟨ts,rfl⟩:=h3.dR Tryz.underlying61 (f:=bV.toD) (fun j y _ hy=>Fu hy);obtain⟨bs,rfl⟩:=h4.dR Tryz.underlying60 (f:=aH.toD) (fun j y _ hy=>xI hy);obtain⟨fs,rfl⟩:=h5.dR Tryz.underlying62 (f:=ag.toD) (fun j y hj hy=>ih j (by omega) y hy);obtain⟨l,rfl⟩:=nK s;exact⟨.mk k0 l k2 ts bs fs,by rw[ag.toD,ag.kK]⟩
theorem Fp(h:Fits Tryz.prog n 66 x):∃t:aV,x=t.toD:=by
 obtain⟨m,xs,rfl,rfl,hx⟩:=h.struct Tryz.underlying66 (ts:=[9,4,3,60,64]) rfl
 match xs,hx with
 |[x0,x1,x2,x3,x4],⟨h0,h1,h2,h3,h4,_⟩=>
  obtain⟨s,rfl,_⟩:=h0.str Tryz.underlying9;obtain⟨b,rfl⟩:=h1.bool Tryz.underlying4;obtain⟨k2,rfl,_⟩:=h2.int Tryz.underlying3;obtain⟨bs,rfl⟩:=h3.dR Tryz.underlying60 (f:=aH.toD) (fun j y _ hy=>xI hy);obtain⟨f,rfl⟩:=Fb _ _ h4;obtain⟨l,rfl⟩:=nK s;exact⟨⟨l,b,k2,bs,f⟩,rfl⟩
theorem Ap:∃fs:Array Field,Tryz.prog.underlying 33=some (.struct fs)/\fs.toList.map (·.type)=[3,3,3,31]:=⟨_,Tryz.underlying33,rfl⟩
theorem Ff(h:Fits Tryz.prog n 35 x):∃t:dz,x=t.toD:=by
 obtain⟨m,xs,rfl,rfl,hx⟩:=h.struct Tryz.underlying35 (ts:=[3,30,33]) rfl
 match xs,hx with
 |[x0,x1,x2],⟨h0,h1,h2,_⟩=>
  obtain⟨k0,rfl,_⟩:=h0.int Tryz.underlying3;obtain⟨z,rfl⟩:=gF h1;obtain⟨fs,hu,hts⟩:=Ap;obtain⟨t,rfl⟩:=Tr.Jq hu hts Tryz.underlying31 Tryz.underlying3 _ _ h2;exact⟨⟨k0,z,t⟩,rfl⟩
section
variable {H:Type} {enc:TypeId×Value->H} {W:World} {base:Nat} {v:Value} {d:DataW H} {ps:List MemPlace} {sp:Nat->Bool} {held:Bool}
theorem JC(hval:Value.okWide Tryz.prog W .any base 28 v)(h:DataW.Trod enc Tryz.prog W 0 sp held 28 v d ps):∃(s:ax) (x:bH),D.of d=s.toD/\v=.agg (x.cells s).toArray/\dh W (·<W.heap.size) s x:=by
 obtain⟨fuel,hf⟩:=h;obtain⟨h1,h2,h3⟩:=kM argTypes fuel _ _ _ _ (by simp[A9]) hf;obtain⟨s,hs⟩:=Fq h2;obtain⟨cs,rfl,_⟩:=okWide_struct Tryz.underlying28 hval;rw[hs] at h1;simp only[Value.cells] at h1;obtain⟨x,hx,h4⟩:=dh.iff.1 h1;exact⟨s,x,hs,by rw[<-hx],h4⟩
theorem Dj(hval:Value.okWide Tryz.prog W .any base 29 v)(h:DataW.Trod enc Tryz.prog W 0 sp held 29 v d ps):∃(l:List aV) (x:aB),D.of d=.sl (l.map aV.toD)/\v=x.val l.length/\ak W (·<W.heap.size) (l.map aV.toD) x:=by
 obtain⟨fuel,hf⟩:=h;obtain⟨h1,h2,h3⟩:=kM argTypes fuel _ _ _ _ (by simp[A9]) hf;obtain⟨l,hl⟩:=h2.dR Tryz.underlying29 (f:=aV.toD) (fun j y _ hy=>Fp hy);obtain⟨a,n,cap,rfl⟩:=okWide_slice Tryz.underlying29 hval;rw[hl] at h1;simp only[Value.cells] at h1;obtain⟨x,e,h4⟩:=aM.bB.1 h1;rw[List.length_map] at e;exact⟨l,x,hl,by simpa using e,h4⟩
theorem CB(hval:Value.okWide Tryz.prog W .any base 38 v)(h:DataW.Trod enc Tryz.prog W 0 sp held 38 v d ps):∃(l:List dz) (x:aB),D.of d=.sl (l.map dz.toD)/\v=x.val l.length/\ak W (·<W.heap.size) (l.map dz.toD) x:=by
 obtain⟨fuel,hf⟩:=h;obtain⟨h1,h2,h3⟩:=kM argTypes fuel _ _ _ _ (by simp[A9]) hf;obtain⟨l,hl⟩:=h2.dR Tryz.underlying38 (f:=dz.toD) (fun j y _ hy=>Ff hy);obtain⟨a,n,cap,rfl⟩:=okWide_slice Tryz.underlying38 hval;rw[hl] at h1;simp only[Value.cells] at h1;obtain⟨x,e,h4⟩:=aM.bB.1 h1;rw[List.length_map] at e;exact⟨l,x,hl,by simpa using e,h4⟩
end
end Go.Proofs.YtncnnbmeacpboaaGreatDoor
namespace Go.Proofs.YtncnnbmeacpboaaGreatDoor
open Go.RowKit Go.aa
variable {n:Nat} {x:D} {α:Type}
theorem bP{f:α->D}{l:List α}{x:α}(h:x∈l):(f x).bulk<=bI (l.map f):=Ba (List.mem_map_of_mem h)
theorem bW{f:α->D}{l:List α}:l.length<=bI (l.map f):=by have:=gp (l.map f);rwa [List.length_map] at this
theorem gz{l:List Int}:l.length<=bI (aG l):=by have:=gp (aG l);simpa[aG] using this
theorem ax.fit{s:ax}(h:s.toD.bulk<=1048576):iE s:=by
 simp only[ax.toD,D.bulk,bI] at h;have h1:=bW (f:=l6.toD) (l:=s.slots);have h2:=bW (f:=nE.toD) (l:=s.ah);have h3:=bW (f:=pF.toD) (l:=s.people);have h4:=bW (f:=oI.toD) (l:=s.groups);have h5:=bW (f:=nH.toD) (l:=s.lessons);have g1:∀x∈s.slots,x.name.length<=4000000:=fun x hx=>by
  have:=bP (f:=l6.toD) hx;simp only[l6.toD,D.bulk,bI,aS] at this;omega
 have g2:∀x∈s.ah,x.name.length<=4000000/\x.shut.length<=2000000:=fun x hx=>by
  have:=bP (f:=nE.toD) hx;have k:=gz (l:=x.shut);simp only[nE.toD,D.bulk,bI,aS] at this;omega
 have g3:∀x∈s.people,x.name.length<=4000000/\x.away.length<=2000000:=fun x hx=>by
  have:=bP (f:=pF.toD) hx;have k:=gz (l:=x.away);simp only[pF.toD,D.bulk,bI,aS] at this;omega
 have g4:∀x∈s.groups,x.name.length<=4000000:=fun x hx=>by
  have:=bP (f:=oI.toD) hx;simp only[oI.toD,D.bulk,bI,aS] at this;omega
 have g5:∀x∈s.lessons,x.name.length<=4000000/\x.who.length<=2000000/\x.groups.length<=2000000:=fun x hx=>by
  have:=bP (f:=nH.toD) hx;have k:=gz (l:=x.who);have k':=gz (l:=x.groups);simp only[nH.toD,D.bulk,bI,aS] at this;omega
 refine⟨⟨by omega,by omega,by omega,by omega,by omega⟩,?_,fun x hx=>(g2 x hx).2,fun x hx=>(g3 x hx).2,fun x hx=>(g5 x hx).2.1,fun x hx=>(g5 x hx).2.2⟩;intro sort x hx;unfold aj at hx
 repeat' split at hx
 ·obtain⟨y,hy,rfl⟩:=List.mem_map.1 hx;exact(g5 y hy).1
 ·obtain⟨y,hy,rfl⟩:=List.mem_map.1 hx;exact g1 y hy
 ·obtain⟨y,hy,rfl⟩:=List.mem_map.1 hx;exact(g2 y hy).1
 ·obtain⟨y,hy,rfl⟩:=List.mem_map.1 hx;exact(g3 y hy).1
 ·obtain⟨y,hy,rfl⟩:=List.mem_map.1 hx;exact g4 y hy
 ·obtain⟨y,hy,rfl⟩:=List.mem_map.1 hx;simp
 ·obtain⟨y,hy,rfl⟩:=List.mem_map.1 hx;simp
 ·cases hx
mutual
theorem rZ:∀(f:ag),∀g∈aN f,g.toD.bulk<=f.toD.bulk
 | .mk kind name n terms binds l=>fun g hg=>by
  rw[aN] at hg;cases List.mem_cons.1 hg with
  |inl e=>rw[e];exact Nat.le_refl _
  |inr e=>
   have:=pY l g e;simp only[ag.toD,D.bulk,bI];omega
theorem pY:∀(l:List ag),∀g∈df l,g.toD.bulk<=bI (ag.nA l)
 |[]=>fun g hg=>by rw[df] at hg;cases hg
 |f::r=>fun g hg=>by
  rw[df] at hg;rw[ag.nA,bI];cases List.mem_append.1 hg with
  |inl e=>have:=rZ f g e;omega
  |inr e=>have:=pY r g e;omega
end
theorem ag.sm{f:ag}(h:f.toD.bulk<=1048576):mf f:=by
 obtain⟨kind,name,n,terms,binds,l⟩:=f;rw[ag.toD,ag.kK] at h;simp only[D.bulk,bI,aS] at h;have h1:=bW (f:=bV.toD) (l:=terms);have h2:=bW (f:=aH.toD) (l:=binds);have h3:=bW (f:=ag.toD) (l:=l);refine⟨by show terms.length<=_;omega,by show binds.length<=_;omega,by show l.length<=_;omega,by show name.length<=_;omega,fun t ht=>?_,fun b hb=>?_⟩
 ·have:=bP (f:=bV.toD) (show t∈terms from ht);simp only[bV.toD,D.bulk,bI,aS] at this;omega
 ·have:=bP (f:=aH.toD) (show b∈binds from hb);simp only[aH.toD,D.bulk,bI,aS] at this;omega
theorem ag.fit{f:ag}(h:f.toD.bulk<=1048576):iV f:=
 ⟨by have:=ag.lS f;omega,fun g hg=>ag.sm (by have:=rZ f g hg;omega)⟩
theorem aV.fit{r:aV}(h:r.toD.bulk<=1048576):gL r:=by
 simp only[aV.toD,D.bulk,bI,aS] at h;have h2:=bW (f:=aH.toD) (l:=r.each);refine⟨by omega,by omega,fun b hb=>?_,ag.fit (by omega)⟩;have:=bP (f:=aH.toD) hb;simp only[aH.toD,D.bulk,bI,aS] at this;omega
theorem yK{l:List aV}(h:bI (l.map aV.toD)<=1048576):l.length<=1048576/\(∀r∈l,gL r)/\bI (l.map aV.toD)<=1048576:=by
 have h2:=bW (f:=aV.toD) (l:=l);exact⟨by omega,fun r hr=>aV.fit (by have:=bP (f:=aV.toD) hr;omega),h⟩
theorem Ji{i:dz}(h:i.toD.bulk<=1048576):i.binds.length<=2000000:=by
 have h1:=gz (l:=i.binds);simp only[dz.toD,D.bulk,bI] at h;omega
end Go.Proofs.YtncnnbmeacpboaaGreatDoor
