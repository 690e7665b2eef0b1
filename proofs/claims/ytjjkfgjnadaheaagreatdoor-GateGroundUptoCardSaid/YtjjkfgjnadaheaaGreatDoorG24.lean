/- Joined texts: Bulk. -/
import Derived.Test.YtjjkfgjnadaheaaGreatDoorG09
import Derived.Test.YtjjkfgjnadaheaaGreatDoorG23
import Derived.Test.YtjjkfgjnadaheaaGreatDoorG15
set_option linter.unusedVariables false
set_option linter.unusedSimpArgs false
/- Bounds on what comes in, from its bulk. -/
namespace Go.Proofs.YtjjkfgjnadaheaaGreatDoor
open Go.RowKit Go.Chalk
theorem bulks_map_mem {α:Type} {f:α->D} {l:List α} {x:α} (h:x∈l):(f x).bulk<=bulks (l.map f):=bulk_le (List.mem_map_of_mem h)
theorem bulks_map_len {α:Type} {f:α->D} {l:List α}:l.length<=bulks (l.map f):=by have:=length_le_bulks (l.map f);rwa [List.length_map] at this
theorem bulks_ints {l:List Int}:l.length<=bulks (dints l):=by have:=length_le_bulks (dints l);simpa [dints] using this
theorem Schl.fit {s:Schl} (h:s.toD.bulk<=1048576):SchFit s:=by
 simp only [Schl.toD,D.bulk,bulks] at h
 have h1:=bulks_map_len (f:=Slt.toD) (l:=s.slots)
 have h2:=bulks_map_len (f:=Rom.toD) (l:=s.rooms)
 have h3:=bulks_map_len (f:=Psn.toD) (l:=s.people)
 have h4:=bulks_map_len (f:=Grp.toD) (l:=s.groups)
 have h5:=bulks_map_len (f:=Lsn.toD) (l:=s.lessons)
 have g1:∀ x∈s.slots,x.name.length<=4000000:=fun x hx=>by
  have:=bulks_map_mem (f:=Slt.toD) hx
  simp only [Slt.toD,D.bulk,bulks,bs_size] at this;omega
 have g2:∀ x∈s.rooms,x.name.length<=4000000/\x.shut.length<=2000000:=fun x hx=>by
  have:=bulks_map_mem (f:=Rom.toD) hx
  have k:=bulks_ints (l:=x.shut)
  simp only [Rom.toD,D.bulk,bulks,bs_size] at this;omega
 have g3:∀ x∈s.people,x.name.length<=4000000/\x.away.length<=2000000:=fun x hx=>by
  have:=bulks_map_mem (f:=Psn.toD) hx
  have k:=bulks_ints (l:=x.away)
  simp only [Psn.toD,D.bulk,bulks,bs_size] at this;omega
 have g4:∀ x∈s.groups,x.name.length<=4000000:=fun x hx=>by
  have:=bulks_map_mem (f:=Grp.toD) hx
  simp only [Grp.toD,D.bulk,bulks,bs_size] at this;omega
 have g5:∀ x∈s.lessons,x.name.length<=4000000/\x.who.length<=2000000/\x.groups.length<=2000000:=fun x hx=>by
  have:=bulks_map_mem (f:=Lsn.toD) hx
  have k:=bulks_ints (l:=x.who)
  have k':=bulks_ints (l:=x.groups)
  simp only [Lsn.toD,D.bulk,bulks,bs_size] at this;omega
 refine ⟨⟨by omega,by omega,by omega,by omega,by omega⟩,?_,fun x hx=>(g2 x hx).2,fun x hx=>(g3 x hx).2,fun x hx=>(g5 x hx).2.1,fun x hx=>(g5 x hx).2.2⟩
 intro sort x hx
 unfold schNames at hx
 repeat' split at hx
 ·obtain ⟨y,hy,rfl⟩:=List.mem_map.1 hx;exact (g5 y hy).1
 ·obtain ⟨y,hy,rfl⟩:=List.mem_map.1 hx;exact g1 y hy
 ·obtain ⟨y,hy,rfl⟩:=List.mem_map.1 hx;exact (g2 y hy).1
 ·obtain ⟨y,hy,rfl⟩:=List.mem_map.1 hx;exact (g3 y hy).1
 ·obtain ⟨y,hy,rfl⟩:=List.mem_map.1 hx;exact g4 y hy
 ·obtain ⟨y,hy,rfl⟩:=List.mem_map.1 hx;simp
 ·obtain ⟨y,hy,rfl⟩:=List.mem_map.1 hx;simp
 ·cases hx

mutual
theorem nodes_bulk:∀ (f:Frm),∀ g∈nodesF f,g.toD.bulk<=f.toD.bulk
 | .mk kind name n terms binds l=>fun g hg=>by
  rw [nodesF] at hg
  cases List.mem_cons.1 hg with
  | inl e=>rw [e];exact Nat.le_refl _
  | inr e =>
   have:=nodesL_bulk l g e
   simp only [Frm.toD,D.bulk,bulks];omega
theorem nodesL_bulk:∀ (l:List Frm),∀ g∈nodesL l,g.toD.bulk<=bulks (Frm.toDs l)
 | []=>fun g hg=>by rw [nodesL] at hg;cases hg
 | f :: r=>fun g hg=>by
  rw [nodesL] at hg
  rw [Frm.toDs,bulks]
  cases List.mem_append.1 hg with
  | inl e=>have:=nodes_bulk f g e;omega
  | inr e=>have:=nodesL_bulk r g e;omega
end
theorem Frm.sm {f:Frm} (h:f.toD.bulk<=1048576):FrmSm f:=by
 obtain ⟨kind,name,n,terms,binds,l⟩:=f
 rw [Frm.toD,Frm.toDs_eq] at h
 simp only [D.bulk,bulks,bs_size] at h
 have h1:=bulks_map_len (f:=Trm.toD) (l:=terms)
 have h2:=bulks_map_len (f:=Bnd.toD) (l:=binds)
 have h3:=bulks_map_len (f:=Frm.toD) (l:=l)
 refine ⟨by show terms.length<=_;omega,by show binds.length<=_;omega,by show l.length<=_;omega,by show name.length<=_;omega,fun t ht=>?_,fun b hb=>?_⟩
 ·have:=bulks_map_mem (f:=Trm.toD) (show t∈terms from ht)
  simp only [Trm.toD,D.bulk,bulks,bs_size] at this;omega
 ·have:=bulks_map_mem (f:=Bnd.toD) (show b∈binds from hb)
  simp only [Bnd.toD,D.bulk,bulks,bs_size] at this;omega

theorem Frm.fit {f:Frm} (h:f.toD.bulk<=1048576):FrmFit f :=
 ⟨by have:=Frm.bulk_size f;omega,fun g hg=>Frm.sm (by have:=nodes_bulk f g hg;omega)⟩

theorem Rul.fit {r:Rul} (h:r.toD.bulk<=1048576):RulFit r:=by
 simp only [Rul.toD,D.bulk,bulks,bs_size] at h
 have h2:=bulks_map_len (f:=Bnd.toD) (l:=r.each)
 refine ⟨by omega,by omega,fun b hb=>?_,Frm.fit (by omega)⟩
 have:=bulks_map_mem (f:=Bnd.toD) hb
 simp only [Bnd.toD,D.bulk,bulks,bs_size] at this;omega

theorem evs_fit {l:List Ev} (h:bulks (l.map Ev.toD)<=1048576):l.length<=1048576/\∀ e∈l,e.name.length<=4000000:=by
 have h2:=bulks_map_len (f:=Ev.toD) (l:=l)
 refine ⟨by omega,fun b hb=>?_⟩
 have:=bulks_map_mem (f:=Ev.toD) hb
 simp only [Ev.toD,D.bulk,bulks,bs_size] at this;omega
theorem plcs_fit {l:List Plc} (h:bulks (l.map Plc.toD)<=1048576):l.length<=1048576:=by
 have h2:=bulks_map_len (f:=Plc.toD) (l:=l);omega
end Go.Proofs.YtjjkfgjnadaheaaGreatDoor
