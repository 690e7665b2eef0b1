/- Joined texts: UArgs, UBulk. -/
import Derived.Test.YtncnnbmeacpboaaGreatDoorN11
import Derived.Test.YtncnnbmeacpboaaGreatDoorN04
import Derived.Test.YtncnnbmeacpboaaGreatDoorN34
import Derived.Test.YtncnnbmeacpboaaGreatDoorChecked
import Derived.Test.YtncnnbmeacpboaaGreatDoorN32
import Derived.Test.YtncnnbmeacpboaaGreatDoorN21
set_option maxRecDepth 100000
set_option linter.unusedVariables false
set_option linter.unusedSimpArgs false
/- The Tell laws' arguments: schools, rules, instances. (cut out of ZArgs) -/
namespace Go.Proofs.YtncnnbmeacpboaaGreatDoor
open Go.ChangeShapes Go.WideShapes Go.ChangeAt Go.RowKit Go.Chalk
def argTs:List TypeId:=[28,22,23,24,25,26,86,88,97,119,90,30,3,9,4,64,62,61,92,60,94,66,29,35,38,33,31]
theorem argTypes:plainTypes Tryz.prog argTs=true:=by kernel_rfl

theorem fits_trm {n:Nat} {x:D} (h:Fits Tryz.prog n 92 x):∃ t:Trm,x=t.toD:=by
 obtain ⟨m,xs,rfl,rfl,hx⟩:=h.struct Tryz.underlying92 (ts:=[3,9,3]) rfl
 match xs,hx with
 | [x0,x1,x2],⟨h0,h1,h2,_⟩ =>
  obtain ⟨k0,rfl,_⟩:=h0.int Tryz.underlying3
  obtain ⟨s,rfl,_⟩:=h1.str Tryz.underlying9
  obtain ⟨k2,rfl,_⟩:=h2.int Tryz.underlying3
  obtain ⟨l,rfl⟩:=bs_of s
  exact ⟨⟨k0,l,k2⟩,rfl⟩
theorem fits_bnd {n:Nat} {x:D} (h:Fits Tryz.prog n 94 x):∃ t:Bnd,x=t.toD:=by
 obtain ⟨m,xs,rfl,rfl,hx⟩:=h.struct Tryz.underlying94 (ts:=[9,3]) rfl
 match xs,hx with
 | [x0,x1],⟨h0,h1,_⟩ =>
  obtain ⟨s,rfl,_⟩:=h0.str Tryz.underlying9
  obtain ⟨k2,rfl,_⟩:=h1.int Tryz.underlying3
  obtain ⟨l,rfl⟩:=bs_of s
  exact ⟨⟨l,k2⟩,rfl⟩
theorem fits_slt {n:Nat} {x:D} (h:Fits Tryz.prog n 86 x):∃ t:Slt,x=t.toD:=by
 obtain ⟨m,xs,rfl,rfl,hx⟩:=h.struct Tryz.underlying86 (ts:=[9,3,3]) rfl
 match xs,hx with
 | [x0,x1,x2],⟨h0,h1,h2,_⟩ =>
  obtain ⟨s,rfl,_⟩:=h0.str Tryz.underlying9
  obtain ⟨k1,rfl,_⟩:=h1.int Tryz.underlying3
  obtain ⟨k2,rfl,_⟩:=h2.int Tryz.underlying3
  obtain ⟨l,rfl⟩:=bs_of s
  exact ⟨⟨l,k1,k2⟩,rfl⟩
theorem fits_grp {n:Nat} {x:D} (h:Fits Tryz.prog n 119 x):∃ t:Grp,x=t.toD:=by
 obtain ⟨m,xs,rfl,rfl,hx⟩:=h.struct Tryz.underlying119 (ts:=[9,3]) rfl
 match xs,hx with
 | [x0,x1],⟨h0,h1,_⟩ =>
  obtain ⟨s,rfl,_⟩:=h0.str Tryz.underlying9
  obtain ⟨k2,rfl,_⟩:=h1.int Tryz.underlying3
  obtain ⟨l,rfl⟩:=bs_of s
  exact ⟨⟨l,k2⟩,rfl⟩
theorem fits_ints {n:Nat} {x:D} (h:Fits Tryz.prog n 30 x):∃ l:List Int,x=.sl (dints l):=by
 obtain ⟨l,hl⟩:=h.slice_of Tryz.underlying30 (f:=D.int .i64) (fun j y _ hy=>by obtain ⟨k,rfl,_⟩:=hy.int Tryz.underlying3;exact ⟨k,rfl⟩)
 exact ⟨l,hl⟩
theorem fits_rom {n:Nat} {x:D} (h:Fits Tryz.prog n 88 x):∃ t:Rom,x=t.toD:=by
 obtain ⟨m,xs,rfl,rfl,hx⟩:=h.struct Tryz.underlying88 (ts:=[9,3,3,30]) rfl
 match xs,hx with
 | [x0,x1,x2,x3],⟨h0,h1,h2,h3,_⟩ =>
  obtain ⟨s,rfl,_⟩:=h0.str Tryz.underlying9
  obtain ⟨k1,rfl,_⟩:=h1.int Tryz.underlying3
  obtain ⟨k2,rfl,_⟩:=h2.int Tryz.underlying3
  obtain ⟨z,rfl⟩:=fits_ints h3
  obtain ⟨l,rfl⟩:=bs_of s
  exact ⟨⟨l,k1,k2,z⟩,rfl⟩
theorem fits_psn {n:Nat} {x:D} (h:Fits Tryz.prog n 97 x):∃ t:Psn,x=t.toD:=by
 obtain ⟨m,xs,rfl,rfl,hx⟩:=h.struct Tryz.underlying97 (ts:=[9,30]) rfl
 match xs,hx with
 | [x0,x1],⟨h0,h1,_⟩ =>
  obtain ⟨s,rfl,_⟩:=h0.str Tryz.underlying9
  obtain ⟨z,rfl⟩:=fits_ints h1
  obtain ⟨l,rfl⟩:=bs_of s
  exact ⟨⟨l,z⟩,rfl⟩
theorem fits_lsn {n:Nat} {x:D} (h:Fits Tryz.prog n 90 x):∃ t:Lsn,x=t.toD:=by
 obtain ⟨m,xs,rfl,rfl,hx⟩:=h.struct Tryz.underlying90 (ts:=[9,30,30]) rfl
 match xs,hx with
 | [x0,x1,x2],⟨h0,h1,h2,_⟩ =>
  obtain ⟨s,rfl,_⟩:=h0.str Tryz.underlying9
  obtain ⟨z,rfl⟩:=fits_ints h1
  obtain ⟨z',rfl⟩:=fits_ints h2
  obtain ⟨l,rfl⟩:=bs_of s
  exact ⟨⟨l,z,z'⟩,rfl⟩
theorem fits_sch {n:Nat} {x:D} (h:Fits Tryz.prog n 28 x):∃ t:Schl,x=t.toD:=by
 obtain ⟨m,xs,rfl,rfl,hx⟩:=h.struct Tryz.underlying28 (ts:=[22,23,24,25,26]) rfl
 match xs,hx with
 | [x0,x1,x2,x3,x4],⟨h0,h1,h2,h3,h4,_⟩ =>
  obtain ⟨a,rfl⟩:=h0.slice_of Tryz.underlying22 (f:=Slt.toD) (fun j y _ hy=>fits_slt hy)
  obtain ⟨b,rfl⟩:=h1.slice_of Tryz.underlying23 (f:=Rom.toD) (fun j y _ hy=>fits_rom hy)
  obtain ⟨c,rfl⟩:=h2.slice_of Tryz.underlying24 (f:=Psn.toD) (fun j y _ hy=>fits_psn hy)
  obtain ⟨d,rfl⟩:=h3.slice_of Tryz.underlying25 (f:=Grp.toD) (fun j y _ hy=>fits_grp hy)
  obtain ⟨e,rfl⟩:=h4.slice_of Tryz.underlying26 (f:=Lsn.toD) (fun j y _ hy=>fits_lsn hy)
  exact ⟨⟨a,b,c,d,e⟩,rfl⟩
theorem fits_frm:∀ (n:Nat) (x:D),Fits Tryz.prog n 64 x->∃ t:Frm,x=t.toD:=by
 intro n
 induction n using Nat.strongRecOn with
 | _ n ih =>
  intro x h
  obtain ⟨m,xs,rfl,rfl,hx⟩:=h.struct Tryz.underlying64 (ts:=[3,9,3,61,60,62]) rfl
  match xs,hx with
  | [x0,x1,x2,x3,x4,x5],⟨h0,h1,h2,h3,h4,h5,_⟩ =>
   obtain ⟨k0,rfl,_⟩:=h0.int Tryz.underlying3
   obtain ⟨s,rfl,_⟩:=h1.str Tryz.underlying9
   obtain ⟨k2,rfl,_⟩:=h2.int Tryz.underlying3
   obtain ⟨ts,rfl⟩:=h3.slice_of Tryz.underlying61 (f:=Trm.toD) (fun j y _ hy=>fits_trm hy)
   obtain ⟨bs,rfl⟩:=h4.slice_of Tryz.underlying60 (f:=Bnd.toD) (fun j y _ hy=>fits_bnd hy)
   obtain ⟨fs,rfl⟩:=h5.slice_of Tryz.underlying62 (f:=Frm.toD) (fun j y hj hy=>ih j (by omega) y hy)
   obtain ⟨l,rfl⟩:=bs_of s
   exact ⟨.mk k0 l k2 ts bs fs,by rw [Frm.toD,Frm.toDs_eq]⟩
theorem fits_rul {n:Nat} {x:D} (h:Fits Tryz.prog n 66 x):∃ t:Rul,x=t.toD:=by
 obtain ⟨m,xs,rfl,rfl,hx⟩:=h.struct Tryz.underlying66 (ts:=[9,4,3,60,64]) rfl
 match xs,hx with
 | [x0,x1,x2,x3,x4],⟨h0,h1,h2,h3,h4,_⟩ =>
  obtain ⟨s,rfl,_⟩:=h0.str Tryz.underlying9
  obtain ⟨b,rfl⟩:=h1.bool Tryz.underlying4
  obtain ⟨k2,rfl,_⟩:=h2.int Tryz.underlying3
  obtain ⟨bs,rfl⟩:=h3.slice_of Tryz.underlying60 (f:=Bnd.toD) (fun j y _ hy=>fits_bnd hy)
  obtain ⟨f,rfl⟩:=fits_frm _ _ h4
  obtain ⟨l,rfl⟩:=bs_of s
  exact ⟨⟨l,b,k2,bs,f⟩,rfl⟩

theorem treeFields:∃ fs:Array Field,Tryz.prog.underlying 33=some (.struct fs)/\fs.toList.map (·.type)=[3,3,3,31]:=⟨_,Tryz.underlying33,rfl⟩
theorem fits_inx {n:Nat} {x:D} (h:Fits Tryz.prog n 35 x):∃ t:Inx,x=t.toD:=by
 obtain ⟨m,xs,rfl,rfl,hx⟩:=h.struct Tryz.underlying35 (ts:=[3,30,33]) rfl
 match xs,hx with
 | [x0,x1,x2],⟨h0,h1,h2,_⟩ =>
  obtain ⟨k0,rfl,_⟩:=h0.int Tryz.underlying3
  obtain ⟨z,rfl⟩:=fits_ints h1
  obtain ⟨fs,hu,hts⟩:=treeFields
  obtain ⟨t,rfl⟩:=Tr.of_fits hu hts Tryz.underlying31 Tryz.underlying3 _ _ h2
  exact ⟨⟨k0,z,t⟩,rfl⟩

section
variable {H:Type} {enc:TypeId×Value->H} {W:World} {base:Nat} {v:Value} {d:DataW H} {ps:List MemPlace} {sp:Nat->Bool} {held:Bool}
theorem sch_arg (hval:Value.okWide Tryz.prog W .any base 28 v) (h:DataW.Trod enc Tryz.prog W 0 sp held 28 v d ps):∃ (s:Schl) (x:SchA),D.of d=s.toD/\v=.agg (x.cells s).toArray/\SchIn W (·<W.heap.size) s x:=by
 obtain ⟨fuel,hf⟩:=h
 obtain ⟨h1,h2,h3⟩:=trod_at argTypes fuel _ _ _ _ (by simp [argTs]) hf
 obtain ⟨s,hs⟩:=fits_sch h2
 obtain ⟨cs,rfl,_⟩:=okWide_struct Tryz.underlying28 hval
 rw [hs] at h1
 simp only [Value.cells] at h1
 obtain ⟨x,hx,h4⟩:=SchIn.iff.1 h1
 exact ⟨s,x,hs,by rw [<- hx],h4⟩
theorem rules_arg (hval:Value.okWide Tryz.prog W .any base 29 v) (h:DataW.Trod enc Tryz.prog W 0 sp held 29 v d ps):∃ (l:List Rul) (x:SlA),D.of d=.sl (l.map Rul.toD)/\v=x.val l.length/\SlIn W (·<W.heap.size) (l.map Rul.toD) x:=by
 obtain ⟨fuel,hf⟩:=h
 obtain ⟨h1,h2,h3⟩:=trod_at argTypes fuel _ _ _ _ (by simp [argTs]) hf
 obtain ⟨l,hl⟩:=h2.slice_of Tryz.underlying29 (f:=Rul.toD) (fun j y _ hy=>fits_rul hy)
 obtain ⟨a,n,cap,rfl⟩:=okWide_slice Tryz.underlying29 hval
 rw [hl] at h1
 simp only [Value.cells] at h1
 obtain ⟨x,e,h4⟩:=DAt.sl_iff.1 h1
 rw [List.length_map] at e
 exact ⟨l,x,hl,by simpa using e,h4⟩
theorem insts_arg (hval:Value.okWide Tryz.prog W .any base 38 v) (h:DataW.Trod enc Tryz.prog W 0 sp held 38 v d ps):∃ (l:List Inx) (x:SlA),D.of d=.sl (l.map Inx.toD)/\v=x.val l.length/\SlIn W (·<W.heap.size) (l.map Inx.toD) x:=by
 obtain ⟨fuel,hf⟩:=h
 obtain ⟨h1,h2,h3⟩:=trod_at argTypes fuel _ _ _ _ (by simp [argTs]) hf
 obtain ⟨l,hl⟩:=h2.slice_of Tryz.underlying38 (f:=Inx.toD) (fun j y _ hy=>fits_inx hy)
 obtain ⟨a,n,cap,rfl⟩:=okWide_slice Tryz.underlying38 hval
 rw [hl] at h1
 simp only [Value.cells] at h1
 obtain ⟨x,e,h4⟩:=DAt.sl_iff.1 h1
 rw [List.length_map] at e
 exact ⟨l,x,hl,by simpa using e,h4⟩
end
end Go.Proofs.YtncnnbmeacpboaaGreatDoor
/- Bounds on what comes in, from its bulk. -/
namespace Go.Proofs.YtncnnbmeacpboaaGreatDoor
open Go.RowKit Go.Chalk
theorem bulks_map_mem {α:Type} {f:α->D} {l:List α} {x:α} (h:x∈l):(f x).bulk<=bulks (l.map f):=bulk_le (List.mem_map_of_mem h)
theorem bulks_map_len {α:Type} {f:α->D} {l:List α}:l.length<=bulks (l.map f):=by have:=length_le_bulks (l.map f);rwa [List.length_map] at this
theorem bulks_ints {l:List Int}:l.length<=bulks (dints l):=by have:=length_le_bulks (dints l);simpa [dints] using this
theorem Schl.fit {s:Schl} (h:s.toD.bulk<=1048576):SchFit s:=by
 simp only [Schl.toD,D.bulk,bulks] at h
 have h1:=bulks_map_len (f:=Slt.toD) (l:=s.slots)
 have h2:=bulks_map_len (f:=Rom.toD) (l:=s.rooms)
 have h3:=bulks_map_len (f:=Psn.toD) (l:=s.people)
 have h4:=bulks_map_len (f:=Grp.toD) (l:=s.groups)
 have h5:=bulks_map_len (f:=Lsn.toD) (l:=s.lessons)
 have g1:∀ x∈s.slots,x.name.length<=4000000:=fun x hx=>by
  have:=bulks_map_mem (f:=Slt.toD) hx
  simp only [Slt.toD,D.bulk,bulks,bs_size] at this;omega
 have g2:∀ x∈s.rooms,x.name.length<=4000000/\x.shut.length<=2000000:=fun x hx=>by
  have:=bulks_map_mem (f:=Rom.toD) hx
  have k:=bulks_ints (l:=x.shut)
  simp only [Rom.toD,D.bulk,bulks,bs_size] at this;omega
 have g3:∀ x∈s.people,x.name.length<=4000000/\x.away.length<=2000000:=fun x hx=>by
  have:=bulks_map_mem (f:=Psn.toD) hx
  have k:=bulks_ints (l:=x.away)
  simp only [Psn.toD,D.bulk,bulks,bs_size] at this;omega
 have g4:∀ x∈s.groups,x.name.length<=4000000:=fun x hx=>by
  have:=bulks_map_mem (f:=Grp.toD) hx
  simp only [Grp.toD,D.bulk,bulks,bs_size] at this;omega
 have g5:∀ x∈s.lessons,x.name.length<=4000000/\x.who.length<=2000000/\x.groups.length<=2000000:=fun x hx=>by
  have:=bulks_map_mem (f:=Lsn.toD) hx
  have k:=bulks_ints (l:=x.who)
  have k':=bulks_ints (l:=x.groups)
  simp only [Lsn.toD,D.bulk,bulks,bs_size] at this;omega
 refine ⟨⟨by omega,by omega,by omega,by omega,by omega⟩,?_,fun x hx=>(g2 x hx).2,fun x hx=>(g3 x hx).2,fun x hx=>(g5 x hx).2.1,fun x hx=>(g5 x hx).2.2⟩
 intro sort x hx
 unfold schNames at hx
 repeat' split at hx
 ·obtain ⟨y,hy,rfl⟩:=List.mem_map.1 hx;exact (g5 y hy).1
 ·obtain ⟨y,hy,rfl⟩:=List.mem_map.1 hx;exact g1 y hy
 ·obtain ⟨y,hy,rfl⟩:=List.mem_map.1 hx;exact (g2 y hy).1
 ·obtain ⟨y,hy,rfl⟩:=List.mem_map.1 hx;exact (g3 y hy).1
 ·obtain ⟨y,hy,rfl⟩:=List.mem_map.1 hx;exact g4 y hy
 ·obtain ⟨y,hy,rfl⟩:=List.mem_map.1 hx;simp
 ·obtain ⟨y,hy,rfl⟩:=List.mem_map.1 hx;simp
 ·cases hx

mutual
theorem nodes_bulk:∀ (f:Frm),∀ g∈nodesF f,g.toD.bulk<=f.toD.bulk
 | .mk kind name n terms binds l=>fun g hg=>by
  rw [nodesF] at hg
  cases List.mem_cons.1 hg with
  | inl e=>rw [e];exact Nat.le_refl _
  | inr e =>
   have:=nodesL_bulk l g e
   simp only [Frm.toD,D.bulk,bulks];omega
theorem nodesL_bulk:∀ (l:List Frm),∀ g∈nodesL l,g.toD.bulk<=bulks (Frm.toDs l)
 | []=>fun g hg=>by rw [nodesL] at hg;cases hg
 | f :: r=>fun g hg=>by
  rw [nodesL] at hg
  rw [Frm.toDs,bulks]
  cases List.mem_append.1 hg with
  | inl e=>have:=nodes_bulk f g e;omega
  | inr e=>have:=nodesL_bulk r g e;omega
end
theorem Frm.sm {f:Frm} (h:f.toD.bulk<=1048576):FrmSm f:=by
 obtain ⟨kind,name,n,terms,binds,l⟩:=f
 rw [Frm.toD,Frm.toDs_eq] at h
 simp only [D.bulk,bulks,bs_size] at h
 have h1:=bulks_map_len (f:=Trm.toD) (l:=terms)
 have h2:=bulks_map_len (f:=Bnd.toD) (l:=binds)
 have h3:=bulks_map_len (f:=Frm.toD) (l:=l)
 refine ⟨by show terms.length<=_;omega,by show binds.length<=_;omega,by show l.length<=_;omega,by show name.length<=_;omega,fun t ht=>?_,fun b hb=>?_⟩
 ·have:=bulks_map_mem (f:=Trm.toD) (show t∈terms from ht)
  simp only [Trm.toD,D.bulk,bulks,bs_size] at this;omega
 ·have:=bulks_map_mem (f:=Bnd.toD) (show b∈binds from hb)
  simp only [Bnd.toD,D.bulk,bulks,bs_size] at this;omega

theorem Frm.fit {f:Frm} (h:f.toD.bulk<=1048576):FrmFit f :=
 ⟨by have:=Frm.bulk_size f;omega,fun g hg=>Frm.sm (by have:=nodes_bulk f g hg;omega)⟩

theorem Rul.fit {r:Rul} (h:r.toD.bulk<=1048576):RulFit r:=by
 simp only [Rul.toD,D.bulk,bulks,bs_size] at h
 have h2:=bulks_map_len (f:=Bnd.toD) (l:=r.each)
 refine ⟨by omega,by omega,fun b hb=>?_,Frm.fit (by omega)⟩
 have:=bulks_map_mem (f:=Bnd.toD) hb
 simp only [Bnd.toD,D.bulk,bulks,bs_size] at this;omega

theorem ruls_fit {l:List Rul} (h:bulks (l.map Rul.toD)<=1048576):l.length<=1048576/\(∀ r∈l,RulFit r)/\bulks (l.map Rul.toD)<=1048576:=by
 have h2:=bulks_map_len (f:=Rul.toD) (l:=l)
 exact ⟨by omega,fun r hr=>Rul.fit (by have:=bulks_map_mem (f:=Rul.toD) hr;omega),h⟩
theorem inx_fit {i:Inx} (h:i.toD.bulk<=1048576):i.binds.length<=2000000:=by
 have h1:=bulks_ints (l:=i.binds)
 simp only [Inx.toD,D.bulk,bulks] at h
 omega
end Go.Proofs.YtncnnbmeacpboaaGreatDoor
