/- GroundFrames's card: where what comes in is of bulk at most 1048576 and the listed variables hold what the program's text lays (tied), the law returns true: Frame agrees with the reference implementation. (printed by evalcard.py) -/
import Derived.Test.YtjjkfgjnadaheaaGreatDoorLGFrm2
import Derived.Test.YtjjkfgjnadaheaaGreatDoorB38
import Derived.Test.YtjjkfgjnadaheaaGreatDoorB01
import Derived.Test.YtjjkfgjnadaheaaGreatDoorCards
import Derived.Test.YtjjkfgjnadaheaaGreatDoorTie
import Derived.Deep.DeepHandedRow
import Derived.Deep.DeepWitnessRef
set_option maxRecDepth 100000
set_option linter.unusedVariables false
set_option linter.unusedSimpArgs false
/- GroundFrames's card: where what comes in is of bulk at most 1048576 and the listed variables hold what the program's text lays (tied), the law returns true: Frame agrees with the reference implementation. (printed by evalcard.py) -/
namespace Go.Proofs.YtjjkfgjnadaheaaGreatDoor
open Go.ChangeShapes Go.WideShapes Go.ChangeAt Go.RowKit Go.Chalk

theorem gframes_contract (H:Type) (enc:TypeId×Value->H) (W:World) (base:Nat) (args:Array Value) (ds gs:List (DataW H)) (before:List MemPlace)
  (hval:∀ (j:Nat) t v,Tryz.f4.params[j]?=some t->args[j]?=some v->Value.okWide Tryz.prog W .any base t v)
  (hW:DataW.Whole enc Tryz.prog Tryz.f4.params.toList Rows.groundFramesSpec.vars false W args.toList ds gs before) (hk:Rows.uptoSmall H (ds++gs)=true) (hL:laidMetH Tryz.prog Rows.groundFramesUptoRow.laid W) (hS:W.ShapedOpen Tryz.prog) :
  Calls Tryz.prog 4 args W fun e W'=>∃ v,e=.returned v/\Rows.groundFramesSpec.post enc Tryz.prog Tryz.f4 false true false false W args v W':=by
 have hW':=hW
 obtain ⟨p,q,hA0,hV,rfl,hfz,hnd⟩:=hW
 have r_:DataW.TrodAll enc Tryz.prog W 0 (fun _=>true) true Tryz.f4.params.toList args.toList ds p:=hA0
 rw [Tryz.params4] at r_ hval
 obtain ⟨v0,vs0,d0,ds0,p0,q0,hargs,rfl,rfl,h0,r0⟩:=trodAll_cons r_
 obtain ⟨rfl,rfl,rfl⟩:=trodAll_nil r0
 obtain rfl:args=#[v0]:=by cases args;simp_all
 obtain ⟨rfl,rfl⟩:=trodVars_none hV
 obtain ⟨s0,x0,e0,rfl,g0⟩:=sch_arg (hval 0 _ v0 rfl rfl) h0
 have hb:=small_bulk hk
 simp only [List.append_nil,D.ofAll,D.of,D.bulk,bulks,e0] at hb
 refine (gframes_walk s0 x0 W itoa_at (Schl.fit (s:=s0) (by omega)) (gg_of hS (show laidMetH Tryz.prog Rows.groundFramesUptoRow.laid W from hL)) g0).mono fun e W' ⟨he,hb'⟩=>?_
 subst he
 exact ⟨_,rfl,law_post laid rfl hW' (by kernel_rfl) rfl Tryz.underlying4 rfl hb'⟩

theorem gframes_reads (os:Os) {H:Type} (enc:TypeId×Value->H):∃ places,DataW.whole enc Tryz.prog ((theW os).forCall (fun _ _=>0) ⟨#[],#[.agg #[.slice none 0 0,.slice none 0 0,.slice none 0 0,.slice none 0 0,.slice none 0 0]],[]⟩).memory Tryz.f4.params.toList Rows.groundFramesSpec.vars false (#[.agg #[.slice none 0 0,.slice none 0 0,.slice none 0 0,.slice none 0 0,.slice none 0 0]]:Array Value).toList 8=some ([.agg [.nil,.nil,.nil,.nil,.nil]],[],places) :=
 ⟨[],by kernel_rfl⟩

theorem gframes_lifted (os:Os) (started:os.Started) (H:Type) (enc:TypeId×Value->H) (F:Stop.Interp) :
  ReturnsInHanded {} Tryz.checked os 4 .any ((Rows.OpenSpec.upto Rows.groundFramesSpec).preRow enc Tryz.prog Tryz.f4 Rows.groundFramesUptoRow.domain false Rows.groundFramesUptoRow.laid) (((Rows.OpenSpec.upto Rows.groundFramesSpec).at F).post enc Tryz.prog Tryz.f4 false true false false):=by
 obtain ⟨places,hx⟩:=gframes_reads os enc
 obtain ⟨w1,t1,i1,k1,k2,k3,k4,k5,k6,_⟩:=OpenSpec.witness_stopped_atRef (enc:=enc) (C:=Tryz.checked) (fn:=Tryz.f4) (s:=Rows.OpenSpec.upto Rows.groundFramesSpec) (conds:=Rows.groundFramesUptoRow.domain) (apart:=false) (laid:=Rows.groundFramesUptoRow.laid) (f:=4) false (theW os) #[.agg #[.slice none 0 0,.slice none 0 0,.slice none 0 0,.slice none 0 0,.slice none 0 0]] rfl (theW_vars os _) (theW_rest os _) (by kernel_rfl)
   (OpenSpec.preRow_of_cond 8 hx rfl (fun k hk=>by cases hk;kernel_rfl) (by kernel_rfl) (theW_met os _)) F
 refine returnsInHanded_of_row (C:=Tryz.checked) (s:=Rows.OpenSpec.upto Rows.groundFramesSpec) own started (by kernel_rfl) Tryz.func4 ⟨w1,t1,i1,k1,k2,k3,k4,k5,k6⟩ ?_
 intro W base args ds gs before hval hW _ hcond _ hL hS _
 exact gframes_contract H enc W base args ds gs before hval hW (hcond _ rfl) hL hS

theorem gframes_k10:(Rows.groundFramesUptoRow.inPlace==Tryz.prog.inPlace 4)=true:=by kernel_rfl
theorem gframes_k11:(Rows.groundFramesUptoRow.unfollowed==Tryz.prog.unfollowed 4)=true:=by kernel_rfl
theorem gframes_k12:(Rows.groundFramesUptoRow.recurses==Tryz.prog.recurses 4)=true:=by kernel_rfl
theorem gframes_k13:(Rows.groundFramesUptoRow.named==Tryz.prog.varsNamed 4)=true:=by kernel_rfl
theorem gframes_k27:(Rows.groundFramesUptoRow.lifted==Tryz.prog.liftsFinal)=true:=by kernel_rfl
theorem gframes_facts:joinedFacts Tryz.pinned.checked.prog 4 Tryz.f4 (Rows.OpenSpec.upto Rows.groundFramesSpec).bare Rows.groundFramesUptoRow=true:=by
 unfold joinedFacts
 exact (andT (andT (andT (andT (andT (andT (andT (andT (andT (andT (andT (andT (andT (andT (andT (andT (andT (andT (andT (andT (andT (andT (andT (andT (andT (andT (andT (andT (andT (andT (andT (by kernel_rfl) card_k2) card_k3) (by kernel_rfl)) (by kernel_rfl)) (by kernel_rfl)) (by kernel_rfl)) (by kernel_rfl)) (by kernel_rfl)) gframes_k10) gframes_k11) gframes_k12) gframes_k13) (by kernel_rfl)) (by kernel_rfl)) (by kernel_rfl)) (by kernel_rfl)) (by kernel_rfl)) (by kernel_rfl)) (by kernel_rfl)) (by kernel_rfl)) (by kernel_rfl)) (by kernel_rfl)) (by kernel_rfl)) card_k25) card_k26) gframes_k27) (by kernel_rfl)) (by kernel_rfl)) (by kernel_rfl)) (by kernel_rfl)) (by kernel_rfl))
theorem gframes_said:Rows.GroundFramesUptoSaid :=
 OpenClaim.holds_of_cond 4 Tryz.f4 rfl rfl rfl rfl rfl rfl rfl ⟨rfl,rfl,rfl,rfl,rfl⟩ rfl rfl rfl rfl rfl (by kernel_rfl) Tryz.func4 gframes_facts
  (of_decide_eq_true (by kernel_rfl)) (by unfold Func.isWrapper;first | (rw [if_pos (by decide +kernel)];kernel_rfl) | (rw [if_neg (by decide +kernel)];exact ⟨rfl,rfl⟩))
  (fun os started H enc _ F=>by rw [OpenClaim.pre_eq_preRow];exact gframes_lifted os started H enc F)

theorem gframes_cardplain (f : FuncId) (fn : Func) (hf : Tryz.pinned.checked.prog.funcNamed "chalkline/chalklinelaw10.GroundFrames" = some f) (hfn : Tryz.pinned.checked.prog.funcs[f]? = some fn) :
  true=Tryz.pinned.checked.prog.looks []/\∀ (j:Nat) t,fn.params[j]?=some t->Tryz.pinned.checked.prog.wantsStandIn t=false:=by
 obtain rfl : f = 4 := Option.some.inj ((show Tryz.prog.funcNamed "chalkline/chalklinelaw10.GroundFrames" = some 4 by kernel_rfl).symm.trans hf) |>.symm
 obtain rfl:fn=Tryz.f4:=(Option.some.inj (Tryz.func4.symm.trans hfn)).symm
 refine ⟨by kernel_rfl,fun j t ht=>?_⟩
 rw [Tryz.params4] at ht
 have hm:t∈[28]:=by simpa using Array.mem_of_getElem? ht
 have hall:([28].all fun u=>!Tryz.prog.wantsStandIn u)=true:=by kernel_rfl
 exact (show Tryz.prog.wantsStandIn t=false by simpa using List.all_eq_true.1 hall t hm)

theorem gframes_card:Rows.GroundFramesUptoCardSaid :=
 Claim7.holds_tied_plain_at .later [] _ _ _ _ gframes_said (fun _ h=>by cases h) (by kernel_rfl) (fun _ h=>by cases h) groundFramesUpto_row_tie rfl ⟨rfl,rfl⟩ (by kernel_rfl) rfl gframes_cardplain (by kernel_rfl)
end Go.Proofs.YtjjkfgjnadaheaaGreatDoor
