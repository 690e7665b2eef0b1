/- GroundWeeks's card: where what comes in is of bulk at most 1048576 and the listed variables hold what the program's text lays (tied), the law returns true: the frame formulas are true exactly under the assignments of weeks. (printed by evalcard.py) -/
import Derived.Test.YtjjkfgjnadaheaaGreatDoorLGWeek3
import Derived.Test.YtjjkfgjnadaheaaGreatDoorB49
import Derived.Test.YtjjkfgjnadaheaaGreatDoorB01
import Derived.Test.YtjjkfgjnadaheaaGreatDoorLGWeek1
import Derived.Test.YtjjkfgjnadaheaaGreatDoorCards
import Derived.Test.YtjjkfgjnadaheaaGreatDoorTie
import Derived.Deep.DeepHandedRow
import Derived.Deep.DeepWitnessRef
set_option linter.unusedVariables false
set_option linter.unusedSimpArgs false
set_option maxRecDepth 100000

/- GroundWeeks's card: where what comes in is of bulk at most 1048576 and the listed variables hold what the program's text lays (tied), the law returns true: the frame formulas are true exactly under the assignments of weeks. (printed by evalcard.py) -/
namespace Go.Proofs.YtjjkfgjnadaheaaGreatDoor
open Go.ChangeShapes Go.WideShapes Go.ChangeAt Go.RowKit Go.Chalk

theorem gweeks_contract (H:Type) (enc:TypeId×Value->H) (W:World) (base:Nat) (args:Array Value) (ds gs:List (DataW H)) (before:List MemPlace)
  (hval:∀ (j:Nat) t v,Tryz.f7.params[j]?=some t->args[j]?=some v->Value.okWide Tryz.prog W .any base t v)
  (hW:DataW.Whole enc Tryz.prog Tryz.f7.params.toList Rows.groundWeeksSpec.vars false W args.toList ds gs before) (hk:Rows.uptoSmall H (ds++gs)=true) (hL:laidMetH Tryz.prog Rows.groundWeeksUptoRow.laid W) (hS:W.ShapedOpen Tryz.prog) :
  Calls Tryz.prog 7 args W fun e W'=>∃ v,e=.returned v/\Rows.groundWeeksSpec.post enc Tryz.prog Tryz.f7 false true false false W args v W':=by
 have hW':=hW
 obtain ⟨p,q,hA0,hV,rfl,hfz,hnd⟩:=hW
 have r_:DataW.TrodAll enc Tryz.prog W 0 (fun _=>true) true Tryz.f7.params.toList args.toList ds p:=hA0
 rw [Tryz.params7] at r_ hval
 obtain ⟨v0,vs0,d0,ds0,p0,q0,hargs,rfl,rfl,h0,r0⟩:=trodAll_cons r_
 obtain ⟨v1,vs1,d1,ds1,p1,q1,rfl,rfl,rfl,h1,r1⟩:=trodAll_cons r0
 obtain ⟨rfl,rfl,rfl⟩:=trodAll_nil r1
 obtain rfl:args=#[v0,v1]:=by cases args;simp_all
 obtain ⟨rfl,rfl⟩:=trodVars_none hV
 obtain ⟨s0,x0,e0,rfl,g0⟩:=sch_arg (hval 0 _ v0 rfl rfl) h0
 obtain ⟨l1,x1,e1,rfl,g1⟩:=bools_sl (hval 1 _ v1 rfl rfl) h1
 have hb:=small_bulk hk
 simp only [List.append_nil,D.ofAll,D.of,D.bulk,bulks,e0,e1] at hb
 refine (gweeks_walk s0 x0 l1 x1 W itoa_at (Schl.fit (s:=s0) (by omega)) (gg_of hS (show laidMetH Tryz.prog Rows.groundWeeksUptoRow.laid W from hL)) g0 g1 (by have:=dbools_bulks l1;omega)).mono fun e W' ⟨he,hb'⟩=>?_
 subst he
 exact ⟨_,rfl,law_post laid rfl hW' (by kernel_rfl) rfl Tryz.underlying4 rfl hb'⟩

theorem gweeks_reads (os:Os) {H:Type} (enc:TypeId×Value->H):∃ places,DataW.whole enc Tryz.prog ((theW os).forCall (fun _ _=>0) ⟨#[],#[.agg #[.slice none 0 0,.slice none 0 0,.slice none 0 0,.slice none 0 0,.slice none 0 0],.slice none 0 0],[]⟩).memory Tryz.f7.params.toList Rows.groundWeeksSpec.vars false (#[.agg #[.slice none 0 0,.slice none 0 0,.slice none 0 0,.slice none 0 0,.slice none 0 0],.slice none 0 0]:Array Value).toList 8=some ([.agg [.nil,.nil,.nil,.nil,.nil],.nil],[],places) :=
 ⟨[],by kernel_rfl⟩

theorem gweeks_lifted (os:Os) (started:os.Started) (H:Type) (enc:TypeId×Value->H) (F:Stop.Interp) :
  ReturnsInHanded {} Tryz.checked os 7 .any ((Rows.OpenSpec.upto Rows.groundWeeksSpec).preRow enc Tryz.prog Tryz.f7 Rows.groundWeeksUptoRow.domain false Rows.groundWeeksUptoRow.laid) (((Rows.OpenSpec.upto Rows.groundWeeksSpec).at F).post enc Tryz.prog Tryz.f7 false true false false):=by
 obtain ⟨places,hx⟩:=gweeks_reads os enc
 obtain ⟨w1,t1,i1,k1,k2,k3,k4,k5,k6,_⟩:=OpenSpec.witness_stopped_atRef (enc:=enc) (C:=Tryz.checked) (fn:=Tryz.f7) (s:=Rows.OpenSpec.upto Rows.groundWeeksSpec) (conds:=Rows.groundWeeksUptoRow.domain) (apart:=false) (laid:=Rows.groundWeeksUptoRow.laid) (f:=7) false (theW os) #[.agg #[.slice none 0 0,.slice none 0 0,.slice none 0 0,.slice none 0 0,.slice none 0 0],.slice none 0 0] rfl (theW_vars os _) (theW_rest os _) (by kernel_rfl)
   (OpenSpec.preRow_of_cond 8 hx rfl (fun k hk=>by cases hk;kernel_rfl) (by kernel_rfl) (theW_met os _)) F
 refine returnsInHanded_of_row (C:=Tryz.checked) (s:=Rows.OpenSpec.upto Rows.groundWeeksSpec) own started (by kernel_rfl) Tryz.func7 ⟨w1,t1,i1,k1,k2,k3,k4,k5,k6⟩ ?_
 intro W base args ds gs before hval hW _ hcond _ hL hS _
 exact gweeks_contract H enc W base args ds gs before hval hW (hcond _ rfl) hL hS

theorem gweeks_k10:(Rows.groundWeeksUptoRow.inPlace==Tryz.prog.inPlace 7)=true:=by kernel_rfl
theorem gweeks_k11:(Rows.groundWeeksUptoRow.unfollowed==Tryz.prog.unfollowed 7)=true:=by kernel_rfl
theorem gweeks_k12:(Rows.groundWeeksUptoRow.recurses==Tryz.prog.recurses 7)=true:=by kernel_rfl
theorem gweeks_k13:(Rows.groundWeeksUptoRow.named==Tryz.prog.varsNamed 7)=true:=by kernel_rfl
theorem gweeks_k27:(Rows.groundWeeksUptoRow.lifted==Tryz.prog.liftsFinal)=true:=by kernel_rfl
theorem gweeks_facts:joinedFacts Tryz.pinned.checked.prog 7 Tryz.f7 (Rows.OpenSpec.upto Rows.groundWeeksSpec).bare Rows.groundWeeksUptoRow=true:=by
 unfold joinedFacts
 exact (andT (andT (andT (andT (andT (andT (andT (andT (andT (andT (andT (andT (andT (andT (andT (andT (andT (andT (andT (andT (andT (andT (andT (andT (andT (andT (andT (andT (andT (andT (andT (by kernel_rfl) card_k2) card_k3) (by kernel_rfl)) (by kernel_rfl)) (by kernel_rfl)) (by kernel_rfl)) (by kernel_rfl)) (by kernel_rfl)) gweeks_k10) gweeks_k11) gweeks_k12) gweeks_k13) (by kernel_rfl)) (by kernel_rfl)) (by kernel_rfl)) (by kernel_rfl)) (by kernel_rfl)) (by kernel_rfl)) (by kernel_rfl)) (by kernel_rfl)) (by kernel_rfl)) (by kernel_rfl)) (by kernel_rfl)) card_k25) card_k26) gweeks_k27) (by kernel_rfl)) (by kernel_rfl)) (by kernel_rfl)) (by kernel_rfl)) (by kernel_rfl))
theorem gweeks_said:Rows.GroundWeeksUptoSaid :=
 OpenClaim.holds_of_cond 7 Tryz.f7 rfl rfl rfl rfl rfl rfl rfl ⟨rfl,rfl,rfl,rfl,rfl⟩ rfl rfl rfl rfl rfl (by kernel_rfl) Tryz.func7 gweeks_facts
  (of_decide_eq_true (by kernel_rfl)) (by unfold Func.isWrapper;first | (rw [if_pos (by decide +kernel)];kernel_rfl) | (rw [if_neg (by decide +kernel)];exact ⟨rfl,rfl⟩))
  (fun os started H enc _ F=>by rw [OpenClaim.pre_eq_preRow];exact gweeks_lifted os started H enc F)

theorem gweeks_cardplain (f : FuncId) (fn : Func) (hf : Tryz.pinned.checked.prog.funcNamed "chalkline/chalklinelaw10.GroundWeeks" = some f) (hfn : Tryz.pinned.checked.prog.funcs[f]? = some fn) :
  true=Tryz.pinned.checked.prog.looks []/\∀ (j:Nat) t,fn.params[j]?=some t->Tryz.pinned.checked.prog.wantsStandIn t=false:=by
 obtain rfl : f = 7 := Option.some.inj ((show Tryz.prog.funcNamed "chalkline/chalklinelaw10.GroundWeeks" = some 7 by kernel_rfl).symm.trans hf) |>.symm
 obtain rfl:fn=Tryz.f7:=(Option.some.inj (Tryz.func7.symm.trans hfn)).symm
 refine ⟨by kernel_rfl,fun j t ht=>?_⟩
 rw [Tryz.params7] at ht
 have hm:t∈[28,51]:=by simpa using Array.mem_of_getElem? ht
 have hall:([28,51].all fun u=>!Tryz.prog.wantsStandIn u)=true:=by kernel_rfl
 exact (show Tryz.prog.wantsStandIn t=false by simpa using List.all_eq_true.1 hall t hm)

theorem gweeks_card:Rows.GroundWeeksUptoCardSaid :=
 Claim7.holds_tied_plain_at .later [] _ _ _ _ gweeks_said (fun _ h=>by cases h) (by kernel_rfl) (fun _ h=>by cases h) groundWeeksUpto_row_tie rfl ⟨rfl,rfl⟩ (by kernel_rfl) rfl gweeks_cardplain (by kernel_rfl)
end Go.Proofs.YtjjkfgjnadaheaaGreatDoor
