/- Parts of the proof. -/
import Derived.Test.YtncnnbmeacpboaaGreatDoorQ04
import Derived.Test.YtncnnbmeacpboaaGreatDoorRows
import Derived.OpenShut
set_option linter.unusedVariables false
set_option linter.unusedSimpArgs false
namespace Go.Proofs.YtncnnbmeacpboaaGreatDoor
open Go.ChangeShapes Go.WideShapes Go.ChangeAt Go.RowKit Go.aa
variable {H:Type}
theorem own:ownKnob Tryz.prog.godebug=none:=by kernel_rfl
theorem laid:laidOutB Tryz.prog=true:=by kernel_rfl
mutual
theorem NM{H:Type}:∀d:DataW H,(D.of d).bulk<=Rows.uptoBulk d
 | .lit (.int _ _)=>by simp[D.of,D.bulk,Rows.uptoBulk]
 | .lit (.bool _)=>by simp[D.of,D.bulk,Rows.uptoBulk]
 | .lit (.string bs)=>by
  have e:(⟨bs.toArray⟩:ByteArray).size=bs.length:=by show bs.toArray.size=_;simp
  simp[D.of,D.bulk,Rows.uptoBulk,e]
 | .lit .nil=>by simp[D.of,D.bulk,Rows.uptoBulk]
 | .lit (.float _ _)=>by simp[D.of,D.bulk,Rows.uptoBulk]
 | .nil=>by simp[D.of,D.bulk,dO,Rows.uptoBulk]
 | .slice es sp=>by
  have:=qD es;simp only[D.of,D.bulk,Rows.uptoBulk];omega
 | .agg ps=>by
  have:=qD ps;simp only[D.of,D.bulk,Rows.uptoBulk];omega
 | .ptr _=>by simp[D.of,D.bulk,Rows.uptoBulk]
 | .iface _ _=>by simp[D.of,D.bulk,Rows.uptoBulk]
 | .map _=>by simp[D.of,D.bulk,Rows.uptoBulk]
 | .held _=>by simp[D.of,D.bulk,Rows.uptoBulk]
theorem qD{H:Type}:∀l:List (DataW H),dO (D.iU l)<=Rows.uptoBulkAll l
 |[]=>by simp[D.iU,dO]
 |d::r=>by
  have h1:=NM d;have h2:=qD r;simp only[D.iU,dO,Rows.uptoBulkAll];omega
end
theorem EH{l:List (DataW H)}(h:Rows.uptoSmall H l=true):dO (D.iU l)<=1048576:=by
 have h1:Rows.uptoBulkAll l<=1048576:=of_decide_eq_true h;have h2:=qD l;omega
theorem pE{H:Type}{enc:TypeId×Value->H}{P:Program}(hl:laidOutB P=true){W W':World}(hb:Below W.heap.size W W'):
  ∀ {ts:List TypeId} {vs:List Value} {ds:List (DataW H)} {ps:List MemPlace},(ts.all fun t=>P.readableRec t&&decide (t<P.types.size))=true->DataW.TrodAll enc P W 0 (fun _=>true) true ts vs ds ps->DataW.TrodAll enc P W' 0 (fun b=>decide (b<W.heap.size)) true ts vs ds ps
 |[],vs,ds,ps,_,h=>by obtain⟨rfl,rfl,rfl⟩:=trodAll_nil h;rfl
 |t::ts,vs,ds,ps,ht,h=>by
  have hlt:=h.lt;obtain⟨v,vs',d,ds',p,q,rfl,rfl,rfl,h1,h2⟩:=trodAll_cons h;simp only[List.all_cons,Bool.and_eq_true,decide_eq_true_eq] at ht;exact⟨p,q,Below.trod hl ht.1.1 ht.1.2 h1 hb (fun x hx=>hlt x (List.mem_append_left _ hx)),pE hl hb (by simpa using ht.2) h2,rfl⟩
theorem Ll{enc:TypeId×Value->H}{P:Program}(hl:laidOutB P=true){f:Func}{s:ChangeSpec}{tb:TypeId}{W W':World}{args:Array Value}{ds gs:List (DataW H)}{before:List MemPlace}(hvars:s.vars=[])(hW:DataW.Whole enc P f.params.toList s.vars false W args.toList ds gs before)(hts:(f.params.toList.all fun t=>P.readableRec t&&decide (t<P.types.size))=true)(hr:f.resultTypes=#[tb])(hb:P.underlying tb=some .bool)(hs:s.fn H ds= { results:=[.lit (.bool true)],args:=ds,vars:=[]})(h:Below W.heap.size W W'):s.post enc P f false true false false W args (.bool true) W':=by
 have hW':=hW;obtain⟨p,q,h1,h2,rfl,h3,h4⟩:=hW;rw[hvars] at h2;obtain⟨rfl,rfl⟩:=trodVars_none h2;refine⟨ds,[],p++[],[],p,[],hW',?_,?_,?_,World.keptBut_mono (fun x hx=>⟨hx,.inr (.inl (by simpa using hx))⟩) (h.frame (·∈p++[])),fun e=>by cases e⟩
 ·rw[List.append_nil,hs,hr];exact trodAll_cons_mk (shut_bool hb _) trodAll_mk0
 ·rw[List.append_nil,hs];exact pE hl h hts h1
 ·rw[List.append_nil,hs,hvars];rfl
end Go.Proofs.YtncnnbmeacpboaaGreatDoor
