/- Parts of the proof. -/
import Derived.Test.YtncnnbmeacpboaaGreatDoorQ11
import Derived.Test.YtncnnbmeacpboaaGreatDoorQ34
set_option maxRecDepth 100000
set_option linter.unusedVariables false
set_option linter.unusedSimpArgs false
namespace Go.Proofs.YtncnnbmeacpboaaGreatDoor
open Go.ChangeShapes Go.WideShapes Go.ChangeAt Go.RowKit Go.aa
variable {n:Nat} {x:D} {α:Type}
def Fx:List TypeId:=[28,22,23,24,25,26,86,88,97,119,90,30,3,9,4,64,62,61,92,60,94,66,29,35,38,33,31]
theorem argTypes:vY Tryz.prog Fx=true:=by kernel_rfl
theorem KE(h:Fits Tryz.prog n 92 x):∃t:bH,x=t.toD:=by
 obtain⟨m,xs,rfl,rfl,hx⟩:=h.struct Tryz.underlying92 (ts:=[3,9,3]) rfl
 match xs,hx with
 |[x0,x1,x2],⟨h0,h1,h2,_⟩=>
  obtain⟨k0,rfl,_⟩:=h0.int Tryz.underlying3;obtain⟨s,rfl,_⟩:=h1.str Tryz.underlying9;obtain⟨k2,rfl,_⟩:=h2.int Tryz.underlying3;obtain⟨l,rfl⟩:=qC s;exact⟨⟨k0,l,k2⟩,rfl⟩
theorem Bg(h:Fits Tryz.prog n 94 x):∃t:aD,x=t.toD:=by
 obtain⟨m,xs,rfl,rfl,hx⟩:=h.struct Tryz.underlying94 (ts:=[9,3]) rfl
 match xs,hx with
 |[x0,x1],⟨h0,h1,_⟩=>
  obtain⟨s,rfl,_⟩:=h0.str Tryz.underlying9;obtain⟨k2,rfl,_⟩:=h1.int Tryz.underlying3;obtain⟨l,rfl⟩:=qC s;exact⟨⟨l,k2⟩,rfl⟩
theorem KD(h:Fits Tryz.prog n 86 x):∃t:ma,x=t.toD:=by
 obtain⟨m,xs,rfl,rfl,hx⟩:=h.struct Tryz.underlying86 (ts:=[9,3,3]) rfl
 match xs,hx with
 |[x0,x1,x2],⟨h0,h1,h2,_⟩=>
  obtain⟨s,rfl,_⟩:=h0.str Tryz.underlying9;obtain⟨k1,rfl,_⟩:=h1.int Tryz.underlying3;obtain⟨k2,rfl,_⟩:=h2.int Tryz.underlying3;obtain⟨l,rfl⟩:=qC s;exact⟨⟨l,k1,k2⟩,rfl⟩
theorem Ku(h:Fits Tryz.prog n 119 x):∃t:qm,x=t.toD:=by
 obtain⟨m,xs,rfl,rfl,hx⟩:=h.struct Tryz.underlying119 (ts:=[9,3]) rfl
 match xs,hx with
 |[x0,x1],⟨h0,h1,_⟩=>
  obtain⟨s,rfl,_⟩:=h0.str Tryz.underlying9;obtain⟨k2,rfl,_⟩:=h1.int Tryz.underlying3;obtain⟨l,rfl⟩:=qC s;exact⟨⟨l,k2⟩,rfl⟩
theorem l7(h:Fits Tryz.prog n 30 x):∃l:List Int,x=.sl (bD l):=by
 obtain⟨l,hl⟩:=h.gL Tryz.underlying30 (f:=D.int .i64) (fun j y _ hy=>by obtain⟨k,rfl,_⟩:=hy.int Tryz.underlying3;exact⟨k,rfl⟩);exact⟨l,hl⟩
theorem Kz(h:Fits Tryz.prog n 88 x):∃t:qi,x=t.toD:=by
 obtain⟨m,xs,rfl,rfl,hx⟩:=h.struct Tryz.underlying88 (ts:=[9,3,3,30]) rfl
 match xs,hx with
 |[x0,x1,x2,x3],⟨h0,h1,h2,h3,_⟩=>
  obtain⟨s,rfl,_⟩:=h0.str Tryz.underlying9;obtain⟨k1,rfl,_⟩:=h1.int Tryz.underlying3;obtain⟨k2,rfl,_⟩:=h2.int Tryz.underlying3;obtain⟨z,rfl⟩:=l7 h3;obtain⟨l,rfl⟩:=qC s;exact⟨⟨l,k1,k2,z⟩,rfl⟩
theorem Ky(h:Fits Tryz.prog n 97 x):∃t:sG,x=t.toD:=by
 obtain⟨m,xs,rfl,rfl,hx⟩:=h.struct Tryz.underlying97 (ts:=[9,30]) rfl
 match xs,hx with
 |[x0,x1],⟨h0,h1,_⟩=>
  obtain⟨s,rfl,_⟩:=h0.str Tryz.underlying9;obtain⟨z,rfl⟩:=l7 h1;obtain⟨l,rfl⟩:=qC s;exact⟨⟨l,z⟩,rfl⟩
theorem Kw(h:Fits Tryz.prog n 90 x):∃t:qx,x=t.toD:=by
 obtain⟨m,xs,rfl,rfl,hx⟩:=h.struct Tryz.underlying90 (ts:=[9,30,30]) rfl
 match xs,hx with
 |[x0,x1,x2],⟨h0,h1,h2,_⟩=>
  obtain⟨s,rfl,_⟩:=h0.str Tryz.underlying9;obtain⟨z,rfl⟩:=l7 h1;obtain⟨z',rfl⟩:=l7 h2;obtain⟨l,rfl⟩:=qC s;exact⟨⟨l,z,z'⟩,rfl⟩
theorem KC(h:Fits Tryz.prog n 28 x):∃t:aF,x=t.toD:=by
 obtain⟨m,xs,rfl,rfl,hx⟩:=h.struct Tryz.underlying28 (ts:=[22,23,24,25,26]) rfl
 match xs,hx with
 |[x0,x1,x2,x3,x4],⟨h0,h1,h2,h3,h4,_⟩=>
  obtain⟨a,rfl⟩:=h0.gL Tryz.underlying22 (f:=ma.toD) (fun j y _ hy=>KD hy);obtain⟨b,rfl⟩:=h1.gL Tryz.underlying23 (f:=qi.toD) (fun j y _ hy=>Kz hy);obtain⟨c,rfl⟩:=h2.gL Tryz.underlying24 (f:=sG.toD) (fun j y _ hy=>Ky hy);obtain⟨d,rfl⟩:=h3.gL Tryz.underlying25 (f:=qm.toD) (fun j y _ hy=>Ku hy);obtain⟨e,rfl⟩:=h4.gL Tryz.underlying26 (f:=qx.toD) (fun j y _ hy=>Kw hy);exact⟨⟨a,b,c,d,e⟩,rfl⟩
theorem Kt:∀(n:Nat) (x:D),Fits Tryz.prog n 64 x->∃t:ae,x=t.toD:=by
 intro n
 induction n using Nat.strongRecOn with
 |_ n ih=>
  intro x h;obtain⟨m,xs,rfl,rfl,hx⟩:=h.struct Tryz.underlying64 (ts:=[3,9,3,61,60,62]) rfl
  match xs,hx with
  |[x0,x1,x2,x3,x4,x5],⟨h0,h1,h2,h3,h4,h5,_⟩=>
   obtain⟨k0,rfl,_⟩:=h0.int Tryz.underlying3;obtain⟨s,rfl,_⟩:=h1.str Tryz.underlying9;obtain⟨k2,rfl,_⟩:=h2.int Tryz.underlying3;obtain⟨ts,rfl⟩:=h3.gL Tryz.underlying61 (f:=bH.toD) (fun j y _ hy=>KE hy);obtain⟨bs,rfl⟩:=h4.gL Tryz.underlying60 (f:=aD.toD) (fun j y _ hy=>Bg hy);obtain⟨fs,rfl⟩:=h5.gL Tryz.underlying62 (f:=ae.toD) (fun j y hj hy=>ih j (by omega) y hy);obtain⟨l,rfl⟩:=qC s;exact⟨.mk k0 l k2 ts bs fs,by rw[ae.toD,ae.mO]⟩
theorem KA(h:Fits Tryz.prog n 66 x):∃t:bq,x=t.toD:=by
 obtain⟨m,xs,rfl,rfl,hx⟩:=h.struct Tryz.underlying66 (ts:=[9,4,3,60,64]) rfl
 match xs,hx with
 |[x0,x1,x2,x3,x4],⟨h0,h1,h2,h3,h4,_⟩=>
  obtain⟨s,rfl,_⟩:=h0.str Tryz.underlying9;obtain⟨b,rfl⟩:=h1.bool Tryz.underlying4;obtain⟨k2,rfl,_⟩:=h2.int Tryz.underlying3;obtain⟨bs,rfl⟩:=h3.gL Tryz.underlying60 (f:=aD.toD) (fun j y _ hy=>Bg hy);obtain⟨f,rfl⟩:=Kt _ _ h4;obtain⟨l,rfl⟩:=qC s;exact⟨⟨l,b,k2,bs,f⟩,rfl⟩
theorem ES:∃fs:Array Field,Tryz.prog.underlying 33=some (.struct fs)/\fs.toList.map (·.type)=[3,3,3,31]:=⟨_,Tryz.underlying33,rfl⟩
theorem Kv(h:Fits Tryz.prog n 35 x):∃t:gp,x=t.toD:=by
 obtain⟨m,xs,rfl,rfl,hx⟩:=h.struct Tryz.underlying35 (ts:=[3,30,33]) rfl
 match xs,hx with
 |[x0,x1,x2],⟨h0,h1,h2,_⟩=>
  obtain⟨k0,rfl,_⟩:=h0.int Tryz.underlying3;obtain⟨z,rfl⟩:=l7 h1;obtain⟨fs,hu,hts⟩:=ES;obtain⟨t,rfl⟩:=Tr.OG hu hts Tryz.underlying31 Tryz.underlying3 _ _ h2;exact⟨⟨k0,z,t⟩,rfl⟩
section
variable {H:Type} {enc:TypeId×Value->H} {W:World} {base:Nat} {v:Value} {d:DataW H} {ps:List MemPlace} {sp:Nat->Bool} {held:Bool}
theorem OZ(hval:Value.okWide Tryz.prog W .any base 28 v)(h:DataW.Trod enc Tryz.prog W 0 sp held 28 v d ps):∃(s:aF) (x:bS),D.of d=s.toD/\v=.agg (x.cells s).toArray/\dD W (·<W.heap.size) s x:=by
 obtain⟨fuel,hf⟩:=h;obtain⟨h1,h2,h3⟩:=ru argTypes fuel _ _ _ _ (by simp[Fx]) hf;obtain⟨s,hs⟩:=KC h2;obtain⟨cs,rfl,_⟩:=okWide_struct Tryz.underlying28 hval;rw[hs] at h1;simp only[Value.cells] at h1;obtain⟨x,hx,h4⟩:=dD.iff.1 h1;exact⟨s,x,hs,by rw[<-hx],h4⟩
theorem IA(hval:Value.okWide Tryz.prog W .any base 29 v)(h:DataW.Trod enc Tryz.prog W 0 sp held 29 v d ps):∃(l:List bq) (x:aK),D.of d=.sl (l.map bq.toD)/\v=x.val l.length/\aj W (·<W.heap.size) (l.map bq.toD) x:=by
 obtain⟨fuel,hf⟩:=h;obtain⟨h1,h2,h3⟩:=ru argTypes fuel _ _ _ _ (by simp[Fx]) hf;obtain⟨l,hl⟩:=h2.gL Tryz.underlying29 (f:=bq.toD) (fun j y _ hy=>KA hy);obtain⟨a,n,cap,rfl⟩:=okWide_slice Tryz.underlying29 hval;rw[hl] at h1;simp only[Value.cells] at h1;obtain⟨x,e,h4⟩:=bg.cO.1 h1;rw[List.length_map] at e;exact⟨l,x,hl,by simpa using e,h4⟩
theorem K9(hval:Value.okWide Tryz.prog W .any base 35 v)(h:DataW.Trod enc Tryz.prog W 0 sp held 35 v d ps):∃(i:gp) (y:jL),D.of d=i.toD/\v=.agg (y.cells i).toArray/\fU W (·<W.heap.size) i y:=by
 obtain⟨fuel,hf⟩:=h;obtain⟨h1,h2,h3⟩:=ru argTypes fuel _ _ _ _ (by simp[Fx]) hf;obtain⟨s,hs⟩:=Kv h2;obtain⟨cs,rfl,_⟩:=okWide_struct Tryz.underlying35 hval;rw[hs] at h1;simp only[Value.cells] at h1;obtain⟨x,hx,h4⟩:=fU.iff.1 h1;exact⟨s,x,hs,by rw[<-hx],h4⟩
end
end Go.Proofs.YtncnnbmeacpboaaGreatDoor
namespace Go.Proofs.YtncnnbmeacpboaaGreatDoor
open Go.RowKit Go.aa
variable {n:Nat} {x:D} {α:Type}
theorem eB{f:α->D}{l:List α}{x:α}(h:x∈l):(f x).bulk<=dO (l.map f):=Fy (List.mem_map_of_mem h)
theorem dP{f:α->D}{l:List α}:l.length<=dO (l.map f):=by have:=jU (l.map f);rwa [List.length_map] at this
theorem kQ{l:List Int}:l.length<=dO (bD l):=by have:=jU (bD l);simpa[bD] using this
theorem aF.fit{s:aF}(h:s.toD.bulk<=1048576):gQ s:=by
 simp only[aF.toD,D.bulk,dO] at h;have h1:=dP (f:=ma.toD) (l:=s.slots);have h2:=dP (f:=qi.toD) (l:=s.ah);have h3:=dP (f:=sG.toD) (l:=s.people);have h4:=dP (f:=qm.toD) (l:=s.groups);have h5:=dP (f:=qx.toD) (l:=s.lessons);have g1:∀x∈s.slots,x.name.length<=4000000:=fun x hx=>by
  have:=eB (f:=ma.toD) hx;simp only[ma.toD,D.bulk,dO,aZ] at this;omega
 have g2:∀x∈s.ah,x.name.length<=4000000/\x.shut.length<=2000000:=fun x hx=>by
  have:=eB (f:=qi.toD) hx;have k:=kQ (l:=x.shut);simp only[qi.toD,D.bulk,dO,aZ] at this;omega
 have g3:∀x∈s.people,x.name.length<=4000000/\x.away.length<=2000000:=fun x hx=>by
  have:=eB (f:=sG.toD) hx;have k:=kQ (l:=x.away);simp only[sG.toD,D.bulk,dO,aZ] at this;omega
 have g4:∀x∈s.groups,x.name.length<=4000000:=fun x hx=>by
  have:=eB (f:=qm.toD) hx;simp only[qm.toD,D.bulk,dO,aZ] at this;omega
 have g5:∀x∈s.lessons,x.name.length<=4000000/\x.who.length<=2000000/\x.groups.length<=2000000:=fun x hx=>by
  have:=eB (f:=qx.toD) hx;have k:=kQ (l:=x.who);have k':=kQ (l:=x.groups);simp only[qx.toD,D.bulk,dO,aZ] at this;omega
 refine⟨⟨by omega,by omega,by omega,by omega,by omega⟩,?_,fun x hx=>(g2 x hx).2,fun x hx=>(g3 x hx).2,fun x hx=>(g5 x hx).2.1,fun x hx=>(g5 x hx).2.2⟩;intro sort x hx;unfold ai at hx
 repeat' split at hx
 ·obtain⟨y,hy,rfl⟩:=List.mem_map.1 hx;exact(g5 y hy).1
 ·obtain⟨y,hy,rfl⟩:=List.mem_map.1 hx;exact g1 y hy
 ·obtain⟨y,hy,rfl⟩:=List.mem_map.1 hx;exact(g2 y hy).1
 ·obtain⟨y,hy,rfl⟩:=List.mem_map.1 hx;exact(g3 y hy).1
 ·obtain⟨y,hy,rfl⟩:=List.mem_map.1 hx;exact g4 y hy
 ·obtain⟨y,hy,rfl⟩:=List.mem_map.1 hx;simp
 ·obtain⟨y,hy,rfl⟩:=List.mem_map.1 hx;simp
 ·cases hx
mutual
theorem vV:∀(f:ae),∀g∈aJ f,g.toD.bulk<=f.toD.bulk
 | .mk kind name n terms binds l=>fun g hg=>by
  rw[aJ] at hg;cases List.mem_cons.1 hg with
  |inl e=>rw[e];exact Nat.le_refl _
  |inr e=>
   have:=sQ l g e;simp only[ae.toD,D.bulk,dO];omega
theorem sQ:∀(l:List ae),∀g∈dU l,g.toD.bulk<=dO (ae.qb l)
 |[]=>fun g hg=>by rw[dU] at hg;cases hg
 |f::r=>fun g hg=>by
  rw[dU] at hg;rw[ae.qb,dO];cases List.mem_append.1 hg with
  |inl e=>have:=vV f g e;omega
  |inr e=>have:=sQ r g e;omega
end
theorem ae.sm{f:ae}(h:f.toD.bulk<=1048576):jo f:=by
 obtain⟨kind,name,n,terms,binds,l⟩:=f;rw[ae.toD,ae.mO] at h;simp only[D.bulk,dO,aZ] at h;have h1:=dP (f:=bH.toD) (l:=terms);have h2:=dP (f:=aD.toD) (l:=binds);have h3:=dP (f:=ae.toD) (l:=l);refine⟨by show terms.length<=_;omega,by show binds.length<=_;omega,by show l.length<=_;omega,by show name.length<=_;omega,fun t ht=>?_,fun b hb=>?_⟩
 ·have:=eB (f:=bH.toD) (show t∈terms from ht);simp only[bH.toD,D.bulk,dO,aZ] at this;omega
 ·have:=eB (f:=aD.toD) (show b∈binds from hb);simp only[aD.toD,D.bulk,dO,aZ] at this;omega
theorem ae.fit{f:ae}(h:f.toD.bulk<=1048576):gZ f:=
 ⟨by have:=ae.oz f;omega,fun g hg=>ae.sm (by have:=vV f g hg;omega)⟩
theorem bq.fit{r:bq}(h:r.toD.bulk<=1048576):gF r:=by
 simp only[bq.toD,D.bulk,dO,aZ] at h;have h2:=dP (f:=aD.toD) (l:=r.each);refine⟨by omega,by omega,fun b hb=>?_,ae.fit (by omega)⟩;have:=eB (f:=aD.toD) hb;simp only[aD.toD,D.bulk,dO,aZ] at this;omega
theorem Cv{l:List bq}(h:dO (l.map bq.toD)<=1048576):l.length<=1048576/\(∀r∈l,gF r)/\dO (l.map bq.toD)<=1048576:=by
 have h2:=dP (f:=bq.toD) (l:=l);exact⟨by omega,fun r hr=>bq.fit (by have:=eB (f:=bq.toD) hr;omega),h⟩
theorem Ot{i:gp}(h:i.toD.bulk<=1048576):i.binds.length<=2000000:=by
 have h1:=kQ (l:=i.binds);simp only[gp.toD,D.bulk,dO] at h;omega
end Go.Proofs.YtncnnbmeacpboaaGreatDoor
