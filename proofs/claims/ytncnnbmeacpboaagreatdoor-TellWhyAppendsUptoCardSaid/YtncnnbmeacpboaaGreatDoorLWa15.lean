/- Parts of the proof. -/
import Derived.Test.YtncnnbmeacpboaaGreatDoorLWa12
import Derived.Test.YtncnnbmeacpboaaGreatDoorLWa14
set_option maxRecDepth 100000
set_option linter.unusedVariables false
set_option linter.unusedSimpArgs false
namespace Go.Proofs.YtncnnbmeacpboaaGreatDoor
open Go.ChangeShapes Go.WideShapes Go.ChangeAt Go.RowKit Go.aa
variable {d:oJ}
def D9(d:oJ):D:=.st [.int .i64 d.kind,.sl (bD d.az),.sl (bD d.fixes)]
theorem JJ{w:World}{F:Nat->Prop}{cs:List Value}(h:aM w F (D9 d) cs):∃y:ql,cs=y.cells d/\ak w F (bD d.az) y.c/\ak w F (bD d.fixes) y.f:=by
 rw[D9,aM] at h;simp only[au] at h;obtain⟨_,_,rfl,h0,_,_,rfl,h1,_,_,rfl,h2,rfl⟩:=h;rw[aM] at h0;obtain⟨rfl,_⟩:=h0;obtain⟨c,rfl,k1⟩:=aM.bB.1 h1;obtain⟨f,rfl,k2⟩:=aM.bB.1 h2;exact⟨⟨c,f⟩,by simp[ql.cells,bD,aB.val],k1,k2⟩
def zt:List TypeId:=[45,43,30,3]
theorem uu:ni Tryz.prog zt=true:=by kernel_rfl
theorem Fv{n:Nat}{x:D}(h:Fits Tryz.prog n 45 x):∃d:oJ,x=D9 d:=by
 obtain⟨m,xs,rfl,rfl,hx⟩:=h.struct Tryz.underlying45 (ts:=[3,43,43]) rfl
 match xs,hx with
 |[x0,x1,x2],⟨h0,h1,h2,_⟩=>
  obtain⟨k0,rfl,_⟩:=h0.int Tryz.underlying3;obtain⟨c,rfl⟩:=h1.dR Tryz.underlying43 (f:=fun p=>.sl (aG p)) (fun j y _ hy=>gF hy);obtain⟨f,rfl⟩:=h2.dR Tryz.underlying43 (f:=fun p=>.sl (aG p)) (fun j y _ hy=>gF hy);exact⟨⟨k0,c,f⟩,rfl⟩
section
variable {H:Type} {enc:TypeId×Value->H} {W:World} {base:Nat} {v:Value} {d:DataW H} {ps:List MemPlace} {sp:Nat->Bool} {held:Bool}
theorem JK(hval:Value.okWide Tryz.prog W .any base 45 v)(h:DataW.Trod enc Tryz.prog W 0 sp held 45 v d ps):∃(t:oJ) (y:ql),D.of d=D9 t/\v=.agg (y.cells t).toArray/\ak W (·<W.heap.size) (bD t.az) y.c/\ak W (·<W.heap.size) (bD t.fixes) y.f:=by
 obtain⟨fuel,hf⟩:=h;obtain⟨h1,h2,h3⟩:=kM uu fuel _ _ _ _ (by simp[zt]) hf;obtain⟨t,hs⟩:=Fv h2;obtain⟨cs,rfl,_⟩:=okWide_struct Tryz.underlying45 hval;rw[hs] at h1;simp only[Value.cells] at h1;obtain⟨y,hy,h4,h5⟩:=JJ h1;exact⟨t,y,hs,by rw[<-hy],h4,h5⟩
theorem FX(hval:Value.okWide Tryz.prog W .any base 30 v)(h:DataW.Trod enc Tryz.prog W 0 sp held 30 v d ps):∃(l:List Int) (x:aB),D.of d=.sl (aG l)/\v=x.val l.length/\ak W (·<W.heap.size) (aG l) x:=by
 obtain⟨fuel,hf⟩:=h;obtain⟨h1,h2,h3⟩:=kM uu fuel _ _ _ _ (by simp[zt]) hf;obtain⟨l,hl⟩:=gF h2;obtain⟨a,n,cap,rfl⟩:=okWide_slice Tryz.underlying30 hval;rw[hl] at h1;simp only[Value.cells] at h1;obtain⟨x,e,h4⟩:=aM.bB.1 h1;rw[aG,List.length_map] at e;exact⟨l,x,hl,by simpa using e,h4⟩
end
theorem qZ{l:List (List Int)}(h:bI (bD l)<=1048576):l.length<=2000000/\∀p∈l,p.length<=2000000:=by
 have h1:=gp (bD l);rw[show(bD l).length=l.length by simp[bD]] at h1;refine⟨by omega,fun p hp=>?_⟩;have h2:=bP (f:=fun p=>D.sl (aG p)) hp;have h3:=gz (l:=p);simp only[D.bulk] at h2;have:bI (List.map (fun p=>D.sl (aG p)) l)<=1048576:=h;omega
theorem qK(h:(D9 d).bulk<=1048576):(d.az.length<=2000000/\∀p∈d.az,p.length<=2000000)/\d.fixes.length<=2000000/\∀p∈d.fixes,p.length<=2000000:=by
 simp only[D9,D.bulk,bI] at h;exact⟨qZ (by omega),qZ (by omega)⟩
end Go.Proofs.YtncnnbmeacpboaaGreatDoor
