/- Joined texts: Row, Args. -/
import Derived.Test.YtjjkfgjnadaheaaGreatDoorG04
import Derived.Test.YtjjkfgjnadaheaaGreatDoorRows
import Derived.WalkKit
import Derived.ProofKit
import Derived.OpenShut
import Derived.JoinedCond
import Derived.Carry
import Derived.Test.YtjjkfgjnadaheaaGreatDoorChecked
set_option maxRecDepth 100000
set_option linter.unusedVariables false
set_option linter.unusedSimpArgs false
/- From the walk of a law to its row: the arguments read as data; they read behind the call as they did; the bound. -/
namespace Go.Proofs.YtjjkfgjnadaheaaGreatDoor
open Go.ChangeShapes Go.WideShapes Go.ChangeAt Go.RowKit Go.Chalk
theorem own:ownKnob Tryz.prog.godebug=none:=by kernel_rfl
theorem laid:laidOutB Tryz.prog=true:=by kernel_rfl

mutual
theorem bulk_of {H:Type}:∀ d:DataW H,(D.of d).bulk<=Rows.uptoBulk d
 | .lit (.int _ _)=>by simp [D.of,D.bulk,Rows.uptoBulk]
 | .lit (.bool _)=>by simp [D.of,D.bulk,Rows.uptoBulk]
 | .lit (.string bs)=>by
  have e:(⟨bs.toArray⟩:ByteArray).size=bs.length:=by show bs.toArray.size=_;simp
  simp [D.of,D.bulk,Rows.uptoBulk,e]
 | .lit .nil=>by simp [D.of,D.bulk,Rows.uptoBulk]
 | .lit (.float _ _)=>by simp [D.of,D.bulk,Rows.uptoBulk]
 | .nil=>by simp [D.of,D.bulk,bulks,Rows.uptoBulk]
 | .slice es sp=>by
  have:=bulks_of es
  simp only [D.of,D.bulk,Rows.uptoBulk];omega
 | .agg ps=>by
  have:=bulks_of ps
  simp only [D.of,D.bulk,Rows.uptoBulk];omega
 | .ptr _=>by simp [D.of,D.bulk,Rows.uptoBulk]
 | .iface _ _=>by simp [D.of,D.bulk,Rows.uptoBulk]
 | .map _=>by simp [D.of,D.bulk,Rows.uptoBulk]
 | .held _=>by simp [D.of,D.bulk,Rows.uptoBulk]
theorem bulks_of {H:Type}:∀ l:List (DataW H),bulks (D.ofAll l)<=Rows.uptoBulkAll l
 | []=>by simp [D.ofAll,bulks]
 | d :: r=>by
  have h1:=bulk_of d
  have h2:=bulks_of r
  simp only [D.ofAll,bulks,Rows.uptoBulkAll];omega
end
theorem small_bulk {H:Type} {l:List (DataW H)} (h:Rows.uptoSmall H l=true):bulks (D.ofAll l)<=1048576:=by
 have h1:Rows.uptoBulkAll l<=1048576:=of_decide_eq_true h
 have h2:=bulks_of l
 omega

theorem trodAll_below {H:Type} {enc:TypeId×Value->H} {P:Program} (hl:laidOutB P=true) {W W':World} (hb:Below W.heap.size W W') :
  ∀ {ts:List TypeId} {vs:List Value} {ds:List (DataW H)} {ps:List MemPlace},(ts.all fun t=>P.readableRec t&&decide (t<P.types.size))=true->DataW.TrodAll enc P W 0 (fun _=>true) true ts vs ds ps->DataW.TrodAll enc P W' 0 (fun b=>decide (b<W.heap.size)) true ts vs ds ps
 | [],vs,ds,ps,_,h=>by obtain ⟨rfl,rfl,rfl⟩:=trodAll_nil h;rfl
 | t :: ts,vs,ds,ps,ht,h=>by
  have hlt:=h.lt
  obtain ⟨v,vs',d,ds',p,q,rfl,rfl,rfl,h1,h2⟩:=trodAll_cons h
  simp only [List.all_cons,Bool.and_eq_true,decide_eq_true_eq] at ht
  exact ⟨p,q,Below.trod hl ht.1.1 ht.1.2 h1 hb (fun x hx=>hlt x (List.mem_append_left _ hx)),trodAll_below hl hb (by simpa using ht.2) h2,rfl⟩

theorem law_post {H:Type} {enc:TypeId×Value->H} {P:Program} (hl:laidOutB P=true) {f:Func} {s:ChangeSpec} {tb:TypeId} {W W':World} {args:Array Value} {ds gs:List (DataW H)} {before:List MemPlace} (hvars:s.vars=[])
  (hW:DataW.Whole enc P f.params.toList s.vars false W args.toList ds gs before) (hts:(f.params.toList.all fun t=>P.readableRec t&&decide (t<P.types.size))=true) (hr:f.resultTypes=#[tb]) (hb:P.underlying tb=some .bool)
  (hs:s.fn H ds = { results:=[.lit (.bool true)],args:=ds,vars:=[] }) (h:Below W.heap.size W W'):s.post enc P f false true false false W args (.bool true) W':=by
 have hW':=hW
 obtain ⟨p,q,h1,h2,rfl,h3,h4⟩:=hW
 rw [hvars] at h2
 obtain ⟨rfl,rfl⟩:=trodVars_none h2
 refine ⟨ds,[],p++[],[],p,[],hW',?_,?_,?_,World.keptBut_mono (fun x hx=>⟨hx,.inr (.inl (by simpa using hx))⟩) (h.frame (·∈p++[])),fun e=>by cases e⟩
 ·rw [List.append_nil,hs,hr]
  exact trodAll_cons_mk (shut_bool hb _) trodAll_mk0
 ·rw [List.append_nil,hs]
  exact trodAll_below hl h hts h1
 ·rw [List.append_nil,hs,hvars];rfl

end Go.Proofs.YtjjkfgjnadaheaaGreatDoor
/- The laws' arguments: schools, weeks, environments, formulas, binds, rules. -/
namespace Go.Proofs.YtjjkfgjnadaheaaGreatDoor
open Go.ChangeShapes Go.WideShapes Go.ChangeAt Go.RowKit Go.Chalk
def argTs:List TypeId:=[28,22,23,24,25,26,114,118,122,125,92,90,3,9,4,50,48,99,29,76,34,32,30,147,31,149]
theorem argTypes:plainTypes Tryz.prog argTs=true:=by kernel_rfl

theorem fits_trm {n:Nat} {x:D} (h:Fits Tryz.prog n 147 x):∃ t:Trm,x=t.toD:=by
 obtain ⟨m,xs,rfl,rfl,hx⟩:=h.struct Tryz.underlying147 (ts:=[3,9,3]) rfl
 match xs,hx with
 | [x0,x1,x2],⟨h0,h1,h2,_⟩ =>
  obtain ⟨k0,rfl,_⟩:=h0.int Tryz.underlying3
  obtain ⟨s,rfl,_⟩:=h1.str Tryz.underlying9
  obtain ⟨k2,rfl,_⟩:=h2.int Tryz.underlying3
  obtain ⟨l,rfl⟩:=bs_of s
  exact ⟨⟨k0,l,k2⟩,rfl⟩
theorem fits_bnd {n:Nat} {x:D} (h:Fits Tryz.prog n 149 x):∃ t:Bnd,x=t.toD:=by
 obtain ⟨m,xs,rfl,rfl,hx⟩:=h.struct Tryz.underlying149 (ts:=[9,3]) rfl
 match xs,hx with
 | [x0,x1],⟨h0,h1,_⟩ =>
  obtain ⟨s,rfl,_⟩:=h0.str Tryz.underlying9
  obtain ⟨k2,rfl,_⟩:=h1.int Tryz.underlying3
  obtain ⟨l,rfl⟩:=bs_of s
  exact ⟨⟨l,k2⟩,rfl⟩
theorem fits_ev {n:Nat} {x:D} (h:Fits Tryz.prog n 76 x):∃ t:Ev,x=t.toD:=by
 obtain ⟨m,xs,rfl,rfl,hx⟩:=h.struct Tryz.underlying76 (ts:=[9,3,3]) rfl
 match xs,hx with
 | [x0,x1,x2],⟨h0,h1,h2,_⟩ =>
  obtain ⟨s,rfl,_⟩:=h0.str Tryz.underlying9
  obtain ⟨k1,rfl,_⟩:=h1.int Tryz.underlying3
  obtain ⟨k2,rfl,_⟩:=h2.int Tryz.underlying3
  obtain ⟨l,rfl⟩:=bs_of s
  exact ⟨⟨l,k1,k2⟩,rfl⟩
theorem fits_plc {n:Nat} {x:D} (h:Fits Tryz.prog n 99 x):∃ t:Plc,x=t.toD:=by
 obtain ⟨m,xs,rfl,rfl,hx⟩:=h.struct Tryz.underlying99 (ts:=[3,3]) rfl
 match xs,hx with
 | [x0,x1],⟨h0,h1,_⟩ =>
  obtain ⟨k1,rfl,_⟩:=h0.int Tryz.underlying3
  obtain ⟨k2,rfl,_⟩:=h1.int Tryz.underlying3
  exact ⟨⟨k1,k2⟩,rfl⟩
theorem fits_slt {n:Nat} {x:D} (h:Fits Tryz.prog n 114 x):∃ t:Slt,x=t.toD:=by
 obtain ⟨m,xs,rfl,rfl,hx⟩:=h.struct Tryz.underlying114 (ts:=[9,3,3]) rfl
 match xs,hx with
 | [x0,x1,x2],⟨h0,h1,h2,_⟩ =>
  obtain ⟨s,rfl,_⟩:=h0.str Tryz.underlying9
  obtain ⟨k1,rfl,_⟩:=h1.int Tryz.underlying3
  obtain ⟨k2,rfl,_⟩:=h2.int Tryz.underlying3
  obtain ⟨l,rfl⟩:=bs_of s
  exact ⟨⟨l,k1,k2⟩,rfl⟩
theorem fits_grp {n:Nat} {x:D} (h:Fits Tryz.prog n 125 x):∃ t:Grp,x=t.toD:=by
 obtain ⟨m,xs,rfl,rfl,hx⟩:=h.struct Tryz.underlying125 (ts:=[9,3]) rfl
 match xs,hx with
 | [x0,x1],⟨h0,h1,_⟩ =>
  obtain ⟨s,rfl,_⟩:=h0.str Tryz.underlying9
  obtain ⟨k2,rfl,_⟩:=h1.int Tryz.underlying3
  obtain ⟨l,rfl⟩:=bs_of s
  exact ⟨⟨l,k2⟩,rfl⟩
theorem fits_ints {n:Nat} {x:D} (h:Fits Tryz.prog n 90 x):∃ l:List Int,x=.sl (dints l):=by
 obtain ⟨l,hl⟩:=h.slice_of Tryz.underlying90 (f:=D.int .i64) (fun j y _ hy=>by obtain ⟨k,rfl,_⟩:=hy.int Tryz.underlying3;exact ⟨k,rfl⟩)
 exact ⟨l,hl⟩
theorem fits_rom {n:Nat} {x:D} (h:Fits Tryz.prog n 118 x):∃ t:Rom,x=t.toD:=by
 obtain ⟨m,xs,rfl,rfl,hx⟩:=h.struct Tryz.underlying118 (ts:=[9,3,3,90]) rfl
 match xs,hx with
 | [x0,x1,x2,x3],⟨h0,h1,h2,h3,_⟩ =>
  obtain ⟨s,rfl,_⟩:=h0.str Tryz.underlying9
  obtain ⟨k1,rfl,_⟩:=h1.int Tryz.underlying3
  obtain ⟨k2,rfl,_⟩:=h2.int Tryz.underlying3
  obtain ⟨z,rfl⟩:=fits_ints h3
  obtain ⟨l,rfl⟩:=bs_of s
  exact ⟨⟨l,k1,k2,z⟩,rfl⟩
theorem fits_psn {n:Nat} {x:D} (h:Fits Tryz.prog n 122 x):∃ t:Psn,x=t.toD:=by
 obtain ⟨m,xs,rfl,rfl,hx⟩:=h.struct Tryz.underlying122 (ts:=[9,90]) rfl
 match xs,hx with
 | [x0,x1],⟨h0,h1,_⟩ =>
  obtain ⟨s,rfl,_⟩:=h0.str Tryz.underlying9
  obtain ⟨z,rfl⟩:=fits_ints h1
  obtain ⟨l,rfl⟩:=bs_of s
  exact ⟨⟨l,z⟩,rfl⟩
theorem fits_lsn {n:Nat} {x:D} (h:Fits Tryz.prog n 92 x):∃ t:Lsn,x=t.toD:=by
 obtain ⟨m,xs,rfl,rfl,hx⟩:=h.struct Tryz.underlying92 (ts:=[9,90,90]) rfl
 match xs,hx with
 | [x0,x1,x2],⟨h0,h1,h2,_⟩ =>
  obtain ⟨s,rfl,_⟩:=h0.str Tryz.underlying9
  obtain ⟨z,rfl⟩:=fits_ints h1
  obtain ⟨z',rfl⟩:=fits_ints h2
  obtain ⟨l,rfl⟩:=bs_of s
  exact ⟨⟨l,z,z'⟩,rfl⟩
theorem fits_sch {n:Nat} {x:D} (h:Fits Tryz.prog n 28 x):∃ t:Schl,x=t.toD:=by
 obtain ⟨m,xs,rfl,rfl,hx⟩:=h.struct Tryz.underlying28 (ts:=[22,23,24,25,26]) rfl
 match xs,hx with
 | [x0,x1,x2,x3,x4],⟨h0,h1,h2,h3,h4,_⟩ =>
  obtain ⟨a,rfl⟩:=h0.slice_of Tryz.underlying22 (f:=Slt.toD) (fun j y _ hy=>fits_slt hy)
  obtain ⟨b,rfl⟩:=h1.slice_of Tryz.underlying23 (f:=Rom.toD) (fun j y _ hy=>fits_rom hy)
  obtain ⟨c,rfl⟩:=h2.slice_of Tryz.underlying24 (f:=Psn.toD) (fun j y _ hy=>fits_psn hy)
  obtain ⟨d,rfl⟩:=h3.slice_of Tryz.underlying25 (f:=Grp.toD) (fun j y _ hy=>fits_grp hy)
  obtain ⟨e,rfl⟩:=h4.slice_of Tryz.underlying26 (f:=Lsn.toD) (fun j y _ hy=>fits_lsn hy)
  exact ⟨⟨a,b,c,d,e⟩,rfl⟩
theorem fits_frm:∀ (n:Nat) (x:D),Fits Tryz.prog n 34 x->∃ t:Frm,x=t.toD:=by
 intro n
 induction n using Nat.strongRecOn with
 | _ n ih =>
  intro x h
  obtain ⟨m,xs,rfl,rfl,hx⟩:=h.struct Tryz.underlying34 (ts:=[3,9,3,30,31,32]) rfl
  match xs,hx with
  | [x0,x1,x2,x3,x4,x5],⟨h0,h1,h2,h3,h4,h5,_⟩ =>
   obtain ⟨k0,rfl,_⟩:=h0.int Tryz.underlying3
   obtain ⟨s,rfl,_⟩:=h1.str Tryz.underlying9
   obtain ⟨k2,rfl,_⟩:=h2.int Tryz.underlying3
   obtain ⟨ts,rfl⟩:=h3.slice_of Tryz.underlying30 (f:=Trm.toD) (fun j y _ hy=>fits_trm hy)
   obtain ⟨bs,rfl⟩:=h4.slice_of Tryz.underlying31 (f:=Bnd.toD) (fun j y _ hy=>fits_bnd hy)
   obtain ⟨fs,rfl⟩:=h5.slice_of Tryz.underlying32 (f:=Frm.toD) (fun j y hj hy=>ih j (by omega) y hy)
   obtain ⟨l,rfl⟩:=bs_of s
   exact ⟨.mk k0 l k2 ts bs fs,by rw [Frm.toD,Frm.toDs_eq]⟩
section
variable {H:Type} {enc:TypeId×Value->H} {W:World} {base:Nat} {v:Value} {d:DataW H} {ps:List MemPlace} {sp:Nat->Bool} {held:Bool}
theorem sch_arg (hval:Value.okWide Tryz.prog W .any base 28 v) (h:DataW.Trod enc Tryz.prog W 0 sp held 28 v d ps):∃ (s:Schl) (x:SchA),D.of d=s.toD/\v=.agg (x.cells s).toArray/\SchIn W (·<W.heap.size) s x:=by
 obtain ⟨fuel,hf⟩:=h
 obtain ⟨h1,h2,h3⟩:=trod_at argTypes fuel _ _ _ _ (by simp [argTs]) hf
 obtain ⟨s,hs⟩:=fits_sch h2
 obtain ⟨cs,rfl,_⟩:=okWide_struct Tryz.underlying28 hval
 rw [hs] at h1
 simp only [Value.cells] at h1
 obtain ⟨x,hx,h4⟩:=SchIn.iff.1 h1
 exact ⟨s,x,hs,by rw [<- hx],h4⟩
theorem week_arg (hval:Value.okWide Tryz.prog W .any base 50 v) (h:DataW.Trod enc Tryz.prog W 0 sp held 50 v d ps):∃ (l:List Plc) (x:SlA),D.of d=.st [.sl (l.map Plc.toD)]/\v=.agg #[x.val l.length]/\SlIn W (·<W.heap.size) (l.map Plc.toD) x:=by
 obtain ⟨fuel,hf⟩:=h
 obtain ⟨h1,h2,h3⟩:=trod_at argTypes fuel _ _ _ _ (by simp [argTs]) hf
 obtain ⟨m,xs,rfl,e,hx⟩:=h2.struct Tryz.underlying50 (ts:=[48]) rfl
 match xs,hx with
 | [x0],⟨h0,_⟩ =>
  obtain ⟨l,rfl⟩:=h0.slice_of Tryz.underlying48 (f:=Plc.toD) (fun j y _ hy=>fits_plc hy)
  obtain ⟨cs,rfl,_⟩:=okWide_struct Tryz.underlying50 hval
  rw [e,DAt] at h1
  simp only [DsAt,Value.cells] at h1
  obtain ⟨c1,c2,e1,g1,rfl⟩:=h1
  rw [List.append_nil] at e1
  obtain ⟨x,rfl,h4⟩:=DAt.sl_iff.1 g1
  exact ⟨l,x,e,by rw [List.length_map] at e1;rw [<- e1],h4⟩
theorem frm_arg (hval:Value.okWide Tryz.prog W .any base 34 v) (h:DataW.Trod enc Tryz.prog W 0 sp held 34 v d ps):∃ (f:Frm) (x:FrmA),D.of d=f.toD/\v=.agg (x.cells f).toArray/\FrmIn W (·<W.heap.size) f x:=by
 obtain ⟨fuel,hf⟩:=h
 obtain ⟨h1,h2,h3⟩:=trod_at argTypes fuel _ _ _ _ (by simp [argTs]) hf
 obtain ⟨f,hs⟩:=fits_frm _ _ h2
 obtain ⟨cs,rfl,_⟩:=okWide_struct Tryz.underlying34 hval
 rw [hs] at h1
 simp only [Value.cells] at h1
 obtain ⟨x,hx,h4⟩:=FrmIn.iff.1 h1
 exact ⟨f,x,hs,by rw [<- hx],h4⟩
theorem envs_arg (hval:Value.okWide Tryz.prog W .any base 29 v) (h:DataW.Trod enc Tryz.prog W 0 sp held 29 v d ps):∃ (l:List Ev) (x:SlA),D.of d=.sl (l.map Ev.toD)/\v=x.val l.length/\SlIn W (·<W.heap.size) (l.map Ev.toD) x:=by
 obtain ⟨fuel,hf⟩:=h
 obtain ⟨h1,h2,h3⟩:=trod_at argTypes fuel _ _ _ _ (by simp [argTs]) hf
 obtain ⟨l,hl⟩:=h2.slice_of Tryz.underlying29 (f:=Ev.toD) (fun j y _ hy=>fits_ev hy)
 obtain ⟨a,n,cap,rfl⟩:=okWide_slice Tryz.underlying29 hval
 rw [hl] at h1
 simp only [Value.cells] at h1
 obtain ⟨x,e,h4⟩:=DAt.sl_iff.1 h1
 rw [List.length_map] at e
 exact ⟨l,x,hl,by simpa using e,h4⟩
end
end Go.Proofs.YtjjkfgjnadaheaaGreatDoor
