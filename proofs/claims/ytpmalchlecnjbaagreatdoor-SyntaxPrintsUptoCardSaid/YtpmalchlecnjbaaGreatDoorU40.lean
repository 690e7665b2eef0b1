/- Joined texts: PArgs. -/
import Derived.Test.YtpmalchlecnjbaaGreatDoorU12
import Derived.Test.YtpmalchlecnjbaaGreatDoorU04
import Derived.Test.YtpmalchlecnjbaaGreatDoorChecked
import Derived.Test.YtpmalchlecnjbaaGreatDoorU39
set_option maxRecDepth 100000
set_option linter.unusedVariables false
set_option linter.unusedSimpArgs false
/- The Syntax laws' arguments: formulas, rules. (cut out of ZArgs) -/
namespace Go.Proofs.YtpmalchlecnjbaaGreatDoor
open Go.ChangeShapes Go.WideShapes Go.ChangeAt Go.RowKit Go.Chalk
def argTs:List TypeId:=[64,38,28,26,24,61,25,74,9,3,4]
theorem argTypes:plainTypes Tryz.prog argTs=true:=by kernel_rfl
theorem fits_trm {n:Nat} {x:D} (h:Fits Tryz.prog n 61 x):∃ t:Trm,x=t.toD:=by
 obtain ⟨m,xs,rfl,rfl,hx⟩:=h.struct Tryz.underlying61 (ts:=[3,9,3]) rfl
 match xs,hx with
 | [x0,x1,x2],⟨h0,h1,h2,_⟩ =>
  obtain ⟨k0,rfl,_⟩:=h0.int Tryz.underlying3
  obtain ⟨s,rfl,_⟩:=h1.str Tryz.underlying9
  obtain ⟨k2,rfl,_⟩:=h2.int Tryz.underlying3
  obtain ⟨l,rfl⟩:=bs_of s
  exact ⟨⟨k0,l,k2⟩,rfl⟩
theorem fits_bnd {n:Nat} {x:D} (h:Fits Tryz.prog n 74 x):∃ t:Bnd,x=t.toD:=by
 obtain ⟨m,xs,rfl,rfl,hx⟩:=h.struct Tryz.underlying74 (ts:=[9,3]) rfl
 match xs,hx with
 | [x0,x1],⟨h0,h1,_⟩ =>
  obtain ⟨s,rfl,_⟩:=h0.str Tryz.underlying9
  obtain ⟨k2,rfl,_⟩:=h1.int Tryz.underlying3
  obtain ⟨l,rfl⟩:=bs_of s
  exact ⟨⟨l,k2⟩,rfl⟩
theorem fits_frm:∀ (n:Nat) (x:D),Fits Tryz.prog n 28 x->∃ t:Frm,x=t.toD:=by
 intro n
 induction n using Nat.strongRecOn with
 | _ n ih =>
  intro x h
  obtain ⟨m,xs,rfl,rfl,hx⟩:=h.struct Tryz.underlying28 (ts:=[3,9,3,24,25,26]) rfl
  match xs,hx with
  | [x0,x1,x2,x3,x4,x5],⟨h0,h1,h2,h3,h4,h5,_⟩ =>
   obtain ⟨k0,rfl,_⟩:=h0.int Tryz.underlying3
   obtain ⟨s,rfl,_⟩:=h1.str Tryz.underlying9
   obtain ⟨k2,rfl,_⟩:=h2.int Tryz.underlying3
   obtain ⟨ts,rfl⟩:=h3.slice_of Tryz.underlying24 (f:=Trm.toD) (fun j y _ hy=>fits_trm hy)
   obtain ⟨bs,rfl⟩:=h4.slice_of Tryz.underlying25 (f:=Bnd.toD) (fun j y _ hy=>fits_bnd hy)
   obtain ⟨fs,rfl⟩:=h5.slice_of Tryz.underlying26 (f:=Frm.toD) (fun j y hj hy=>ih j (by omega) y hy)
   obtain ⟨l,rfl⟩:=bs_of s
   exact ⟨.mk k0 l k2 ts bs fs,by rw [Frm.toD,Frm.toDs_eq]⟩
theorem fits_rul {n:Nat} {x:D} (h:Fits Tryz.prog n 64 x):∃ t:Rul,x=t.toD:=by
 obtain ⟨m,xs,rfl,rfl,hx⟩:=h.struct Tryz.underlying64 (ts:=[9,4,3,25,28]) rfl
 match xs,hx with
 | [x0,x1,x2,x3,x4],⟨h0,h1,h2,h3,h4,_⟩ =>
  obtain ⟨s,rfl,_⟩:=h0.str Tryz.underlying9
  obtain ⟨b,rfl⟩:=h1.bool Tryz.underlying4
  obtain ⟨k2,rfl,_⟩:=h2.int Tryz.underlying3
  obtain ⟨bs,rfl⟩:=h3.slice_of Tryz.underlying25 (f:=Bnd.toD) (fun j y _ hy=>fits_bnd hy)
  obtain ⟨f,rfl⟩:=fits_frm _ _ h4
  obtain ⟨l,rfl⟩:=bs_of s
  exact ⟨⟨l,b,k2,bs,f⟩,rfl⟩

section
variable {H:Type} {enc:TypeId×Value->H} {W:World} {base:Nat} {v:Value} {d:DataW H} {ps:List MemPlace} {sp:Nat->Bool} {held:Bool}
theorem rules_arg (hval:Value.okWide Tryz.prog W .any base 38 v) (h:DataW.Trod enc Tryz.prog W 0 sp held 38 v d ps):∃ (l:List Rul) (x:SlA),D.of d=.sl (l.map Rul.toD)/\v=x.val l.length/\SlIn W (·<W.heap.size) (l.map Rul.toD) x:=by
 obtain ⟨fuel,hf⟩:=h
 obtain ⟨h1,h2,h3⟩:=trod_at argTypes fuel _ _ _ _ (by simp [argTs]) hf
 obtain ⟨l,hl⟩:=h2.slice_of Tryz.underlying38 (f:=Rul.toD) (fun j y _ hy=>fits_rul hy)
 obtain ⟨a,n,cap,rfl⟩:=okWide_slice Tryz.underlying38 hval
 rw [hl] at h1
 simp only [Value.cells] at h1
 obtain ⟨x,e,h4⟩:=DAt.sl_iff.1 h1
 rw [List.length_map] at e
 exact ⟨l,x,hl,by simpa using e,h4⟩
end
theorem bulks_map_mem {α:Type} {f:α->D} {l:List α} {x:α} (h:x∈l):(f x).bulk<=bulks (l.map f):=bulk_le (List.mem_map_of_mem h)
theorem bulks_map_len {α:Type} {f:α->D} {l:List α}:l.length<=bulks (l.map f):=by have:=length_le_bulks (l.map f);rwa [List.length_map] at this
mutual
theorem nodes_bulk:∀ (f:Frm),∀ g∈nodesF f,g.toD.bulk<=f.toD.bulk
 | .mk kind name n terms binds l=>fun g hg=>by
  rw [nodesF] at hg
  cases List.mem_cons.1 hg with
  | inl e=>rw [e];exact Nat.le_refl _
  | inr e =>
   have:=nodesL_bulk l g e
   simp only [Frm.toD,D.bulk,bulks];omega
theorem nodesL_bulk:∀ (l:List Frm),∀ g∈nodesL l,g.toD.bulk<=bulks (Frm.toDs l)
 | []=>fun g hg=>by rw [nodesL] at hg;cases hg
 | f :: r=>fun g hg=>by
  rw [nodesL] at hg
  rw [Frm.toDs,bulks]
  cases List.mem_append.1 hg with
  | inl e=>have:=nodes_bulk f g e;omega
  | inr e=>have:=nodesL_bulk r g e;omega
end
theorem Frm.sm {f:Frm} (h:f.toD.bulk<=1048576):FrmSm f:=by
 obtain ⟨kind,name,n,terms,binds,l⟩:=f
 rw [Frm.toD,Frm.toDs_eq] at h
 simp only [D.bulk,bulks,bs_size] at h
 have h1:=bulks_map_len (f:=Trm.toD) (l:=terms)
 have h2:=bulks_map_len (f:=Bnd.toD) (l:=binds)
 have h3:=bulks_map_len (f:=Frm.toD) (l:=l)
 refine ⟨by show terms.length<=_;omega,by show binds.length<=_;omega,by show l.length<=_;omega,by show name.length<=_;omega,fun t ht=>?_,fun b hb=>?_⟩
 ·have:=bulks_map_mem (f:=Trm.toD) (show t∈terms from ht)
  simp only [Trm.toD,D.bulk,bulks,bs_size] at this;omega
 ·have:=bulks_map_mem (f:=Bnd.toD) (show b∈binds from hb)
  simp only [Bnd.toD,D.bulk,bulks,bs_size] at this;omega

theorem Frm.fit {f:Frm} (h:f.toD.bulk<=1048576):FrmFit f :=
 ⟨by have:=Frm.bulk_size f;omega,fun g hg=>Frm.sm (by have:=nodes_bulk f g hg;omega)⟩

theorem Rul.ru {r:Rul} (h:r.toD.bulk<=1048576):RuFit r:=by
 simp only [Rul.toD,D.bulk,bulks,bs_size] at h
 have h2:=bulks_map_len (f:=Bnd.toD) (l:=r.each)
 refine ⟨by omega,by omega,fun b hb=>?_,Frm.fit (by omega)⟩
 have:=bulks_map_mem (f:=Bnd.toD) hb
 simp only [Bnd.toD,D.bulk,bulks,bs_size] at this;omega
theorem ruls_ru {l:List Rul} (h:bulks (l.map Rul.toD)<=1048576):l.length<=1048576/\(∀ r∈l,RuFit r):=by
 have h2:=bulks_map_len (f:=Rul.toD) (l:=l)
 exact ⟨by omega,fun r hr=>Rul.ru (by have:=bulks_map_mem (f:=Rul.toD) hr;omega)⟩
end Go.Proofs.YtpmalchlecnjbaaGreatDoor
