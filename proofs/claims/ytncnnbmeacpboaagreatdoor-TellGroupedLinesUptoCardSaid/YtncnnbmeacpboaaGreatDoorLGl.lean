/- TellGroupedLines's card: where what comes in is of bulk at most 1048576 and the listed variables hold what the program's text lays (tied), the law returns true: Insts gives one heading for each rule that has an instance, and every sentence as often as its instance stands. (printed by tellcard.py) -/
import Derived.Test.YtncnnbmeacpboaaGreatDoorLGl14
import Derived.Test.YtncnnbmeacpboaaGreatDoorN37
import Derived.Test.YtncnnbmeacpboaaGreatDoorN01
import Derived.Test.YtncnnbmeacpboaaGreatDoorLGl12
import Derived.Test.YtncnnbmeacpboaaGreatDoorCards
import Derived.Test.YtncnnbmeacpboaaGreatDoorTie
import Derived.Deep.DeepHandedRow
import Derived.Deep.DeepWitnessRef
set_option maxRecDepth 100000
set_option linter.unusedVariables false
set_option linter.unusedSimpArgs false
/- TellGroupedLines's card: where what comes in is of bulk at most 1048576 and the listed variables hold what the program's text lays (tied), the law returns true: Insts gives one heading for each rule that has an instance, and every sentence as often as its instance stands. (printed by tellcard.py) -/
namespace Go.Proofs.YtncnnbmeacpboaaGreatDoor
open Go.ChangeShapes Go.WideShapes Go.ChangeAt Go.RowKit Go.Chalk

theorem tgrp_contract (H:Type) (enc:TypeId×Value->H) (W:World) (base:Nat) (args:Array Value) (ds gs:List (DataW H)) (before:List MemPlace)
  (hval:∀ (j:Nat) t v,Tryz.f6.params[j]?=some t->args[j]?=some v->Value.okWide Tryz.prog W .any base t v)
  (hW:DataW.Whole enc Tryz.prog Tryz.f6.params.toList Rows.tellGroupedLinesSpec.vars false W args.toList ds gs before) (hk:Rows.uptoSmall H (ds++gs)=true) (hL:laidMetH Tryz.prog Rows.tellGroupedLinesUptoRow.laid W) (hS:W.ShapedOpen Tryz.prog) :
  Calls Tryz.prog 6 args W fun e W'=>∃ v,e=.returned v/\Rows.tellGroupedLinesSpec.post enc Tryz.prog Tryz.f6 false true false false W args v W':=by
 have hW':=hW
 obtain ⟨p,q,hA0,hV,rfl,hfz,hnd⟩:=hW
 have r_:DataW.TrodAll enc Tryz.prog W 0 (fun _=>true) true Tryz.f6.params.toList args.toList ds p:=hA0
 rw [Tryz.params6] at r_ hval
 obtain ⟨v0,vs0,d0,ds0,p0,q0,hargs,rfl,rfl,h0,r0⟩:=trodAll_cons r_
 obtain ⟨v1,vs1,d1,ds1,p1,q1,rfl,rfl,rfl,h1,r1⟩:=trodAll_cons r0
 obtain ⟨v2,vs2,d2,ds2,p2,q2,rfl,rfl,rfl,h2,r2⟩:=trodAll_cons r1
 obtain ⟨rfl,rfl,rfl⟩:=trodAll_nil r2
 obtain rfl:args=#[v0,v1,v2]:=by cases args;simp_all
 obtain ⟨rfl,rfl⟩:=trodVars_none hV
 obtain ⟨s0,x0,e0,rfl,g0⟩:=sch_arg (hval 0 _ v0 rfl rfl) h0
 obtain ⟨l1,x1,e1,rfl,g1⟩:=rules_arg (hval 1 _ v1 rfl rfl) h1
 obtain ⟨l2,x2,e2,rfl,g2⟩:=insts_arg (hval 2 _ v2 rfl rfl) h2
 have hb:=small_bulk hk
 simp only [List.append_nil,D.ofAll,D.of,D.bulk,bulks,e0,e1,e2] at hb
 refine (tellGrouped_any s0 x0 l1 x1 l2 x2 W itoa_at g0 (Schl.fit (s:=s0) (by omega)) g1 (by have:=(ruls_fit (l:=l1) (by omega)).1;omega) (ruls_fit (l:=l1) (by omega)).2.1 g2 (inxs_fit (l:=l2) (by omega)).1 (inxs_fit (l:=l2) (by omega)).2 (gs_of hS (show laidMetH Tryz.prog laidS W from hL))).mono fun e W' ⟨he,hb'⟩=>?_
 subst he
 exact ⟨_,rfl,law_post laid rfl hW' (by kernel_rfl) rfl Tryz.underlying4 rfl hb'⟩

theorem tgrp_reads (os:Os) {H:Type} (enc:TypeId×Value->H):∃ places,DataW.whole enc Tryz.prog ((theW os).forCall (fun _ _=>0) ⟨#[],#[.agg #[.slice none 0 0,.slice none 0 0,.slice none 0 0,.slice none 0 0,.slice none 0 0],.slice none 0 0,.slice none 0 0],[]⟩).memory Tryz.f6.params.toList Rows.tellGroupedLinesSpec.vars false (#[.agg #[.slice none 0 0,.slice none 0 0,.slice none 0 0,.slice none 0 0,.slice none 0 0],.slice none 0 0,.slice none 0 0]:Array Value).toList 8=some ([.agg [.nil,.nil,.nil,.nil,.nil],.nil,.nil],[],places) :=
 ⟨[],by kernel_rfl⟩

theorem tgrp_lifted (os:Os) (started:os.Started) (H:Type) (enc:TypeId×Value->H) (F:Stop.Interp) :
  ReturnsInHanded {} Tryz.checked os 6 .any ((Rows.OpenSpec.upto Rows.tellGroupedLinesSpec).preRow enc Tryz.prog Tryz.f6 Rows.tellGroupedLinesUptoRow.domain false Rows.tellGroupedLinesUptoRow.laid) (((Rows.OpenSpec.upto Rows.tellGroupedLinesSpec).at F).post enc Tryz.prog Tryz.f6 false true false false):=by
 obtain ⟨places,hx⟩:=tgrp_reads os enc
 obtain ⟨w1,t1,i1,k1,k2,k3,k4,k5,k6,_⟩:=OpenSpec.witness_stopped_atRef (enc:=enc) (C:=Tryz.checked) (fn:=Tryz.f6) (s:=Rows.OpenSpec.upto Rows.tellGroupedLinesSpec) (conds:=Rows.tellGroupedLinesUptoRow.domain) (apart:=false) (laid:=Rows.tellGroupedLinesUptoRow.laid) (f:=6) false (theW os) #[.agg #[.slice none 0 0,.slice none 0 0,.slice none 0 0,.slice none 0 0,.slice none 0 0],.slice none 0 0,.slice none 0 0] rfl (theW_vars os _) (theW_rest os _) (by kernel_rfl)
   (OpenSpec.preRow_of_cond 8 hx rfl (fun k hk=>by cases hk;kernel_rfl) (by kernel_rfl) (theW_met os _)) F
 refine returnsInHanded_of_row (C:=Tryz.checked) (s:=Rows.OpenSpec.upto Rows.tellGroupedLinesSpec) own started (by kernel_rfl) Tryz.func6 ⟨w1,t1,i1,k1,k2,k3,k4,k5,k6⟩ ?_
 intro W base args ds gs before hval hW _ hcond _ hL hS _
 exact tgrp_contract H enc W base args ds gs before hval hW (hcond _ rfl) hL hS

theorem tgrp_k10:(Rows.tellGroupedLinesUptoRow.inPlace==Tryz.prog.inPlace 6)=true:=by kernel_rfl
theorem tgrp_k11:(Rows.tellGroupedLinesUptoRow.unfollowed==Tryz.prog.unfollowed 6)=true:=by kernel_rfl
theorem tgrp_k12:(Rows.tellGroupedLinesUptoRow.recurses==Tryz.prog.recurses 6)=true:=by kernel_rfl
theorem tgrp_k13:(Rows.tellGroupedLinesUptoRow.named==Tryz.prog.varsNamed 6)=true:=by kernel_rfl
theorem tgrp_k27:(Rows.tellGroupedLinesUptoRow.lifted==Tryz.prog.liftsFinal)=true:=by kernel_rfl
theorem tgrp_facts:joinedFacts Tryz.pinned.checked.prog 6 Tryz.f6 (Rows.OpenSpec.upto Rows.tellGroupedLinesSpec).bare Rows.tellGroupedLinesUptoRow=true:=by
 unfold joinedFacts
 exact (andT (andT (andT (andT (andT (andT (andT (andT (andT (andT (andT (andT (andT (andT (andT (andT (andT (andT (andT (andT (andT (andT (andT (andT (andT (andT (andT (andT (andT (andT (andT (by kernel_rfl) card_k2) card_k3) (by kernel_rfl)) (by kernel_rfl)) (by kernel_rfl)) (by kernel_rfl)) (by kernel_rfl)) (by kernel_rfl)) tgrp_k10) tgrp_k11) tgrp_k12) tgrp_k13) (by kernel_rfl)) (by kernel_rfl)) (by kernel_rfl)) (by kernel_rfl)) (by kernel_rfl)) (by kernel_rfl)) (by kernel_rfl)) (by kernel_rfl)) (by kernel_rfl)) (by kernel_rfl)) (by kernel_rfl)) card_k25) card_k26) tgrp_k27) (by kernel_rfl)) (by kernel_rfl)) (by kernel_rfl)) (by kernel_rfl)) (by kernel_rfl))
theorem tgrp_said:Rows.TellGroupedLinesUptoSaid :=
 OpenClaim.holds_of_cond 6 Tryz.f6 rfl rfl rfl rfl rfl rfl rfl ⟨rfl,rfl,rfl,rfl,rfl⟩ rfl rfl rfl rfl rfl (by kernel_rfl) Tryz.func6 tgrp_facts
  (of_decide_eq_true (by kernel_rfl)) (by unfold Func.isWrapper;first | (rw [if_pos (by decide +kernel)];kernel_rfl) | (rw [if_neg (by decide +kernel)];exact ⟨rfl,rfl⟩))
  (fun os started H enc _ F=>by rw [OpenClaim.pre_eq_preRow];exact tgrp_lifted os started H enc F)

theorem tgrp_cardplain (f : FuncId) (fn : Func) (hf : Tryz.pinned.checked.prog.funcNamed "chalkline/chalklinelaw31.TellGroupedLines" = some f) (hfn : Tryz.pinned.checked.prog.funcs[f]? = some fn) :
  false=Tryz.pinned.checked.prog.looks []/\∀ (j:Nat) t,fn.params[j]?=some t->Tryz.pinned.checked.prog.wantsStandIn t=false:=by
 obtain rfl : f = 6 := Option.some.inj ((show Tryz.prog.funcNamed "chalkline/chalklinelaw31.TellGroupedLines" = some 6 by kernel_rfl).symm.trans hf) |>.symm
 obtain rfl:fn=Tryz.f6:=(Option.some.inj (Tryz.func6.symm.trans hfn)).symm
 refine ⟨by kernel_rfl,fun j t ht=>?_⟩
 rw [Tryz.params6] at ht
 have hm:t∈[28,29,38]:=by simpa using Array.mem_of_getElem? ht
 have hall:([28,29,38].all fun u=>!Tryz.prog.wantsStandIn u)=true:=by kernel_rfl
 exact (show Tryz.prog.wantsStandIn t=false by simpa using List.all_eq_true.1 hall t hm)

theorem tgrp_card:Rows.TellGroupedLinesUptoCardSaid :=
 Claim7.holds_tied_plain_at .later [] _ _ _ _ tgrp_said (fun _ h=>by cases h) (by kernel_rfl) (fun _ h=>by cases h) tellGroupedLinesUpto_row_tie rfl ⟨rfl,rfl⟩ (by kernel_rfl) rfl tgrp_cardplain (by kernel_rfl)
end Go.Proofs.YtncnnbmeacpboaaGreatDoor
