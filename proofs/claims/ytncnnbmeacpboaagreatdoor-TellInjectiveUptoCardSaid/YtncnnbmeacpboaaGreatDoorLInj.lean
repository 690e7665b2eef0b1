/- TellInjective's card: where what comes in is of bulk at most 1048576 and the listed variables hold what the program's text lays (tied), the law returns true: the sentences of two valid instances are equal exactly where both have the same rule and the same elements. (printed by tellcard.py) -/
import Derived.Test.YtncnnbmeacpboaaGreatDoorLInj13
import Derived.Test.YtncnnbmeacpboaaGreatDoorM37
import Derived.Test.YtncnnbmeacpboaaGreatDoorM01
import Derived.Test.YtncnnbmeacpboaaGreatDoorCards
import Derived.Test.YtncnnbmeacpboaaGreatDoorTie
import Derived.Deep.DeepHandedRow
import Derived.Deep.DeepWitnessRef
set_option maxRecDepth 100000
set_option linter.unusedVariables false
set_option linter.unusedSimpArgs false
/- TellInjective's card: where what comes in is of bulk at most 1048576 and the listed variables hold what the program's text lays (tied), the law returns true: the sentences of two valid instances are equal exactly where both have the same rule and the same elements. (printed by tellcard.py) -/
namespace Go.Proofs.YtncnnbmeacpboaaGreatDoor
open Go.ChangeShapes Go.WideShapes Go.ChangeAt Go.RowKit Go.Chalk

theorem tinj_contract (H:Type) (enc:TypeId×Value->H) (W:World) (base:Nat) (args:Array Value) (ds gs:List (DataW H)) (before:List MemPlace)
  (hval:∀ (j:Nat) t v,Tryz.f5.params[j]?=some t->args[j]?=some v->Value.okWide Tryz.prog W .any base t v)
  (hW:DataW.Whole enc Tryz.prog Tryz.f5.params.toList Rows.tellInjectiveSpec.vars false W args.toList ds gs before) (hk:Rows.uptoSmall H (ds++gs)=true) (hL:laidMetH Tryz.prog Rows.tellInjectiveUptoRow.laid W) (hS:W.ShapedOpen Tryz.prog) :
  Calls Tryz.prog 5 args W fun e W'=>∃ v,e=.returned v/\Rows.tellInjectiveSpec.post enc Tryz.prog Tryz.f5 false true false false W args v W':=by
 have hW':=hW
 obtain ⟨p,q,hA0,hV,rfl,hfz,hnd⟩:=hW
 have r_:DataW.TrodAll enc Tryz.prog W 0 (fun _=>true) true Tryz.f5.params.toList args.toList ds p:=hA0
 rw [Tryz.params5] at r_ hval
 obtain ⟨v0,vs0,d0,ds0,p0,q0,hargs,rfl,rfl,h0,r0⟩:=trodAll_cons r_
 obtain ⟨v1,vs1,d1,ds1,p1,q1,rfl,rfl,rfl,h1,r1⟩:=trodAll_cons r0
 obtain ⟨v2,vs2,d2,ds2,p2,q2,rfl,rfl,rfl,h2,r2⟩:=trodAll_cons r1
 obtain ⟨v3,vs3,d3,ds3,p3,q3,rfl,rfl,rfl,h3,r3⟩:=trodAll_cons r2
 obtain ⟨rfl,rfl,rfl⟩:=trodAll_nil r3
 obtain rfl:args=#[v0,v1,v2,v3]:=by cases args;simp_all
 obtain ⟨rfl,rfl⟩:=trodVars_none hV
 obtain ⟨s0,x0,e0,rfl,g0⟩:=sch_arg (hval 0 _ v0 rfl rfl) h0
 obtain ⟨l1,x1,e1,rfl,g1⟩:=rules_arg (hval 1 _ v1 rfl rfl) h1
 obtain ⟨i2,y2,e2,rfl,g2⟩:=inst_arg (hval 2 _ v2 rfl rfl) h2
 obtain ⟨i3,y3,e3,rfl,g3⟩:=inst_arg (hval 3 _ v3 rfl rfl) h3
 have hb:=small_bulk hk
 simp only [List.append_nil,D.ofAll,D.of,D.bulk,bulks,e0,e1,e2,e3] at hb
 refine (tellInj_any s0 x0 l1 x1 i2 i3 y2 y3 W itoa_at g0 (Schl.fit (s:=s0) (by omega)) g1 (by have:=(ruls_fit (l:=l1) (by omega)).1;omega) (ruls_fit (l:=l1) (by omega)).2.1 g2 (inx_fit (i:=i2) (by omega)) g3 (inx_fit (i:=i3) (by omega)) (gs_of hS (show laidMetH Tryz.prog laidS W from hL))).mono fun e W' ⟨he,hb'⟩=>?_
 subst he
 exact ⟨_,rfl,law_post laid rfl hW' (by kernel_rfl) rfl Tryz.underlying4 rfl hb'⟩

theorem tinj_reads (os:Os) {H:Type} (enc:TypeId×Value->H):∃ places,DataW.whole enc Tryz.prog ((theW os).forCall (fun _ _=>0) ⟨#[],#[.agg #[.slice none 0 0,.slice none 0 0,.slice none 0 0,.slice none 0 0,.slice none 0 0],.slice none 0 0,.agg #[.int .i64 0,.slice none 0 0,.int .i64 0,.int .i64 0,.int .i64 0,.slice none 0 0],.agg #[.int .i64 0,.slice none 0 0,.int .i64 0,.int .i64 0,.int .i64 0,.slice none 0 0]],[]⟩).memory Tryz.f5.params.toList Rows.tellInjectiveSpec.vars false (#[.agg #[.slice none 0 0,.slice none 0 0,.slice none 0 0,.slice none 0 0,.slice none 0 0],.slice none 0 0,.agg #[.int .i64 0,.slice none 0 0,.int .i64 0,.int .i64 0,.int .i64 0,.slice none 0 0],.agg #[.int .i64 0,.slice none 0 0,.int .i64 0,.int .i64 0,.int .i64 0,.slice none 0 0]]:Array Value).toList 8=some ([.agg [.nil,.nil,.nil,.nil,.nil],.nil,.agg [.lit (.int .i64 0),.nil,.agg [.lit (.int .i64 0),.lit (.int .i64 0),.lit (.int .i64 0),.nil]],.agg [.lit (.int .i64 0),.nil,.agg [.lit (.int .i64 0),.lit (.int .i64 0),.lit (.int .i64 0),.nil]]],[],places) :=
 ⟨[],by kernel_rfl⟩

theorem tinj_lifted (os:Os) (started:os.Started) (H:Type) (enc:TypeId×Value->H) (F:Stop.Interp) :
  ReturnsInHanded {} Tryz.checked os 5 .any ((Rows.OpenSpec.upto Rows.tellInjectiveSpec).preRow enc Tryz.prog Tryz.f5 Rows.tellInjectiveUptoRow.domain false Rows.tellInjectiveUptoRow.laid) (((Rows.OpenSpec.upto Rows.tellInjectiveSpec).at F).post enc Tryz.prog Tryz.f5 false true false false):=by
 obtain ⟨places,hx⟩:=tinj_reads os enc
 obtain ⟨w1,t1,i1,k1,k2,k3,k4,k5,k6,_⟩:=OpenSpec.witness_stopped_atRef (enc:=enc) (C:=Tryz.checked) (fn:=Tryz.f5) (s:=Rows.OpenSpec.upto Rows.tellInjectiveSpec) (conds:=Rows.tellInjectiveUptoRow.domain) (apart:=false) (laid:=Rows.tellInjectiveUptoRow.laid) (f:=5) false (theW os) #[.agg #[.slice none 0 0,.slice none 0 0,.slice none 0 0,.slice none 0 0,.slice none 0 0],.slice none 0 0,.agg #[.int .i64 0,.slice none 0 0,.int .i64 0,.int .i64 0,.int .i64 0,.slice none 0 0],.agg #[.int .i64 0,.slice none 0 0,.int .i64 0,.int .i64 0,.int .i64 0,.slice none 0 0]] rfl (theW_vars os _) (theW_rest os _) (by kernel_rfl)
   (OpenSpec.preRow_of_cond 8 hx rfl (fun k hk=>by cases hk;kernel_rfl) (by kernel_rfl) (theW_met os _)) F
 refine returnsInHanded_of_row (C:=Tryz.checked) (s:=Rows.OpenSpec.upto Rows.tellInjectiveSpec) own started (by kernel_rfl) Tryz.func5 ⟨w1,t1,i1,k1,k2,k3,k4,k5,k6⟩ ?_
 intro W base args ds gs before hval hW _ hcond _ hL hS _
 exact tinj_contract H enc W base args ds gs before hval hW (hcond _ rfl) hL hS

theorem tinj_k10:(Rows.tellInjectiveUptoRow.inPlace==Tryz.prog.inPlace 5)=true:=by kernel_rfl
theorem tinj_k11:(Rows.tellInjectiveUptoRow.unfollowed==Tryz.prog.unfollowed 5)=true:=by kernel_rfl
theorem tinj_k12:(Rows.tellInjectiveUptoRow.recurses==Tryz.prog.recurses 5)=true:=by kernel_rfl
theorem tinj_k13:(Rows.tellInjectiveUptoRow.named==Tryz.prog.varsNamed 5)=true:=by kernel_rfl
theorem tinj_k27:(Rows.tellInjectiveUptoRow.lifted==Tryz.prog.liftsFinal)=true:=by kernel_rfl
theorem tinj_facts:joinedFacts Tryz.pinned.checked.prog 5 Tryz.f5 (Rows.OpenSpec.upto Rows.tellInjectiveSpec).bare Rows.tellInjectiveUptoRow=true:=by
 unfold joinedFacts
 exact (andT (andT (andT (andT (andT (andT (andT (andT (andT (andT (andT (andT (andT (andT (andT (andT (andT (andT (andT (andT (andT (andT (andT (andT (andT (andT (andT (andT (andT (andT (andT (by kernel_rfl) card_k2) card_k3) (by kernel_rfl)) (by kernel_rfl)) (by kernel_rfl)) (by kernel_rfl)) (by kernel_rfl)) (by kernel_rfl)) tinj_k10) tinj_k11) tinj_k12) tinj_k13) (by kernel_rfl)) (by kernel_rfl)) (by kernel_rfl)) (by kernel_rfl)) (by kernel_rfl)) (by kernel_rfl)) (by kernel_rfl)) (by kernel_rfl)) (by kernel_rfl)) (by kernel_rfl)) (by kernel_rfl)) card_k25) card_k26) tinj_k27) (by kernel_rfl)) (by kernel_rfl)) (by kernel_rfl)) (by kernel_rfl)) (by kernel_rfl))
theorem tinj_said:Rows.TellInjectiveUptoSaid :=
 OpenClaim.holds_of_cond 5 Tryz.f5 rfl rfl rfl rfl rfl rfl rfl ⟨rfl,rfl,rfl,rfl,rfl⟩ rfl rfl rfl rfl rfl (by kernel_rfl) Tryz.func5 tinj_facts
  (of_decide_eq_true (by kernel_rfl)) (by unfold Func.isWrapper;first | (rw [if_pos (by decide +kernel)];kernel_rfl) | (rw [if_neg (by decide +kernel)];exact ⟨rfl,rfl⟩))
  (fun os started H enc _ F=>by rw [OpenClaim.pre_eq_preRow];exact tinj_lifted os started H enc F)

theorem tinj_cardplain (f : FuncId) (fn : Func) (hf : Tryz.pinned.checked.prog.funcNamed "chalkline/chalklinelaw31.TellInjective" = some f) (hfn : Tryz.pinned.checked.prog.funcs[f]? = some fn) :
  false=Tryz.pinned.checked.prog.looks []/\∀ (j:Nat) t,fn.params[j]?=some t->Tryz.pinned.checked.prog.wantsStandIn t=false:=by
 obtain rfl : f = 5 := Option.some.inj ((show Tryz.prog.funcNamed "chalkline/chalklinelaw31.TellInjective" = some 5 by kernel_rfl).symm.trans hf) |>.symm
 obtain rfl:fn=Tryz.f5:=(Option.some.inj (Tryz.func5.symm.trans hfn)).symm
 refine ⟨by kernel_rfl,fun j t ht=>?_⟩
 rw [Tryz.params5] at ht
 have hm:t∈[28,29,35,35]:=by simpa using Array.mem_of_getElem? ht
 have hall:([28,29,35,35].all fun u=>!Tryz.prog.wantsStandIn u)=true:=by kernel_rfl
 exact (show Tryz.prog.wantsStandIn t=false by simpa using List.all_eq_true.1 hall t hm)

theorem tinj_card:Rows.TellInjectiveUptoCardSaid :=
 Claim7.holds_tied_plain_at .later [] _ _ _ _ tinj_said (fun _ h=>by cases h) (by kernel_rfl) (fun _ h=>by cases h) tellInjectiveUpto_row_tie rfl ⟨rfl,rfl⟩ (by kernel_rfl) rfl tinj_cardplain (by kernel_rfl)
end Go.Proofs.YtncnnbmeacpboaaGreatDoor
