/- SyntaxForms's card: where the listed variables hold what the program's text lays (tied), the law returns true: Form agrees with the reference. (printed by syncard.py) -/
import Derived.Test.YtpmalchlecnjbaaGreatDoorLCForms75
import Derived.Test.YtpmalchlecnjbaaGreatDoorV47
import Derived.Test.YtpmalchlecnjbaaGreatDoorV01
import Derived.Test.YtpmalchlecnjbaaGreatDoorCards
import Derived.Test.YtpmalchlecnjbaaGreatDoorTie
import Derived.Deep.DeepHandedRow
import Derived.Deep.DeepWitnessRef
set_option maxRecDepth 100000
set_option linter.unusedVariables false
set_option linter.unusedSimpArgs false
/- SyntaxForms's card: where the listed variables hold what the program's text lays (tied), the law returns true: Form agrees with the reference. (printed by syncard.py) -/
namespace Go.Proofs.YtpmalchlecnjbaaGreatDoor
open Go.ChangeShapes Go.WideShapes Go.ChangeAt Go.RowKit Go.Chalk

theorem forms7_contract (H:Type) (enc:TypeId×Value->H) (W:World) (base:Nat) (args:Array Value) (ds gs:List (DataW H)) (before:List MemPlace)
  (hval:∀ (j:Nat) t v,Tryz.f3.params[j]?=some t->args[j]?=some v->Value.okWide Tryz.prog W .any base t v)
  (hW:DataW.Whole enc Tryz.prog Tryz.f3.params.toList Rows.syntaxFormsSpec.vars false W args.toList ds gs before) (hL:laidMetH Tryz.prog Rows.syntaxFormsRow.laid W) (hS:W.ShapedOpen Tryz.prog) :
  Calls Tryz.prog 3 args W fun e W'=>∃ v,e=.returned v/\Rows.syntaxFormsSpec.post enc Tryz.prog Tryz.f3 false true false false W args v W':=by
 have hW':=hW
 obtain ⟨p,q,hA0,hV,rfl,hfz,hnd⟩:=hW
 have r_:DataW.TrodAll enc Tryz.prog W 0 (fun _=>true) true Tryz.f3.params.toList args.toList ds p:=hA0
 rw [Tryz.params3] at r_ hval
 obtain ⟨v0,vs0,d0,ds0,p0,q0,hargs,rfl,rfl,h0,r0⟩:=trodAll_cons r_
 obtain ⟨rfl,rfl,rfl⟩:=trodAll_nil r0
 obtain rfl:args=#[v0]:=by cases args;simp_all
 obtain ⟨rfl,rfl⟩:=trodVars_none hV
 obtain ⟨l0,a0,b0,o0,c0,rfl,s0,g0,m0⟩:=bytes_arg (hval 0 _ v0 rfl rfl) h0
 have hg:GS W:=gs_of hS (show laidMetH Tryz.prog laidS W from hL)
 refine (forms_walk l0 a0 b0 o0 c0 W hg s0 g0).mono fun e W' ⟨he,hb'⟩=>?_
 subst he
 exact ⟨_,rfl,law_post laid rfl hW' (by kernel_rfl) rfl Tryz.underlying4 rfl hb'⟩

theorem forms7_reads (os:Os) {H:Type} (enc:TypeId×Value->H):∃ places,DataW.whole enc Tryz.prog ((theW os).forCall (fun _ _=>0) ⟨#[],#[.slice none 0 0],[]⟩).memory Tryz.f3.params.toList Rows.syntaxFormsSpec.vars false (#[.slice none 0 0]:Array Value).toList 8=some ([.nil],[],places) :=
 ⟨[],by kernel_rfl⟩

theorem forms7_lifted (os:Os) (started:os.Started) (H:Type) (enc:TypeId×Value->H) (F:Stop.Interp) :
  ReturnsInHanded {} Tryz.checked os 3 .any ((OpenSpec.ofChange Rows.syntaxFormsSpec).preRow enc Tryz.prog Tryz.f3 Rows.syntaxFormsRow.domain false Rows.syntaxFormsRow.laid) (((OpenSpec.ofChange Rows.syntaxFormsSpec).at F).post enc Tryz.prog Tryz.f3 false true false false):=by
 obtain ⟨places,hx⟩:=forms7_reads os enc
 obtain ⟨w1,t1,i1,k1,k2,k3,k4,k5,k6,_⟩:=OpenSpec.witness_stopped_atRef (enc:=enc) (C:=Tryz.checked) (fn:=Tryz.f3) (s:=(OpenSpec.ofChange Rows.syntaxFormsSpec)) (conds:=Rows.syntaxFormsRow.domain) (apart:=false) (laid:=Rows.syntaxFormsRow.laid) (f:=3) false (theW os) #[.slice none 0 0] rfl (theW_vars os _) (theW_rest os _) (by kernel_rfl)
   (OpenSpec.preRow_of_cond 8 hx rfl (fun k hk=>by cases hk) (by kernel_rfl) (theW_met os _)) F
 refine returnsInHanded_of_row (C:=Tryz.checked) (s:=(OpenSpec.ofChange Rows.syntaxFormsSpec)) own started (by kernel_rfl) Tryz.func3 ⟨w1,t1,i1,k1,k2,k3,k4,k5,k6⟩ ?_
 intro W base args ds gs before hval hW _ hcond _ hL hS _
 exact forms7_contract H enc W base args ds gs before hval hW hL hS

theorem forms7_k10:(Rows.syntaxFormsRow.inPlace==Tryz.prog.inPlace 3)=true:=by kernel_rfl
theorem forms7_k11:(Rows.syntaxFormsRow.unfollowed==Tryz.prog.unfollowed 3)=true:=by kernel_rfl
theorem forms7_k12:(Rows.syntaxFormsRow.recurses==Tryz.prog.recurses 3)=true:=by kernel_rfl
theorem forms7_k13:(Rows.syntaxFormsRow.named==Tryz.prog.varsNamed 3)=true:=by kernel_rfl
theorem forms7_k27:(Rows.syntaxFormsRow.lifted==Tryz.prog.liftsFinal)=true:=by kernel_rfl
theorem forms7_facts:joinedFacts Tryz.pinned.checked.prog 3 Tryz.f3 (OpenSpec.ofChange Rows.syntaxFormsSpec).bare Rows.syntaxFormsRow=true:=by
 unfold joinedFacts
 exact (andT (andT (andT (andT (andT (andT (andT (andT (andT (andT (andT (andT (andT (andT (andT (andT (andT (andT (andT (andT (andT (andT (andT (andT (andT (andT (andT (andT (andT (andT (andT (by kernel_rfl) card_k2) card_k3) (by kernel_rfl)) (by kernel_rfl)) (by kernel_rfl)) (by kernel_rfl)) (by kernel_rfl)) (by kernel_rfl)) forms7_k10) forms7_k11) forms7_k12) forms7_k13) (by kernel_rfl)) (by kernel_rfl)) (by kernel_rfl)) (by kernel_rfl)) (by kernel_rfl)) (by kernel_rfl)) (by kernel_rfl)) (by kernel_rfl)) (by kernel_rfl)) (by kernel_rfl)) (by kernel_rfl)) card_k25) card_k26) forms7_k27) (by kernel_rfl)) (by kernel_rfl)) (by kernel_rfl)) (by kernel_rfl)) (by kernel_rfl))
theorem forms7_said:Rows.SyntaxFormsSaid :=
 OpenClaim.holds_of_cond 3 Tryz.f3 rfl rfl rfl rfl rfl rfl rfl ⟨rfl,rfl,rfl,rfl,rfl⟩ rfl rfl rfl rfl rfl (by kernel_rfl) Tryz.func3 forms7_facts
  (of_decide_eq_true (by kernel_rfl)) (by unfold Func.isWrapper;first | (rw [if_pos (by decide +kernel)];kernel_rfl) | (rw [if_neg (by decide +kernel)];exact ⟨rfl,rfl⟩))
  (fun os started H enc _ F=>by rw [OpenClaim.pre_eq_preRow];exact forms7_lifted os started H enc F)

theorem forms7_cardplain (f : FuncId) (fn : Func) (hf : Tryz.pinned.checked.prog.funcNamed "chalkline/chalklinelaw07.SyntaxForms" = some f) (hfn : Tryz.pinned.checked.prog.funcs[f]? = some fn) :
  true=Tryz.pinned.checked.prog.looks []/\∀ (j:Nat) t,fn.params[j]?=some t->Tryz.pinned.checked.prog.wantsStandIn t=false:=by
 obtain rfl : f = 3 := Option.some.inj ((show Tryz.prog.funcNamed "chalkline/chalklinelaw07.SyntaxForms" = some 3 by kernel_rfl).symm.trans hf) |>.symm
 obtain rfl:fn=Tryz.f3:=(Option.some.inj (Tryz.func3.symm.trans hfn)).symm
 refine ⟨by kernel_rfl,fun j t ht=>?_⟩
 rw [Tryz.params3] at ht
 have hm:t∈[22]:=by simpa using Array.mem_of_getElem? ht
 have hall:([22].all fun u=>!Tryz.prog.wantsStandIn u)=true:=by kernel_rfl
 exact (show Tryz.prog.wantsStandIn t=false by simpa using List.all_eq_true.1 hall t hm)

theorem forms7_card:Rows.SyntaxFormsCardSaid :=
 Claim7.holds_tied_plain_at .later [] _ _ _ _ forms7_said (fun _ h=>by cases h) (by kernel_rfl) (fun _ h=>by cases h) syntaxForms_row_tie rfl ⟨rfl,rfl⟩ (by kernel_rfl) rfl forms7_cardplain (by kernel_rfl)
end Go.Proofs.YtpmalchlecnjbaaGreatDoor
