/- SyntaxPlaces's card: where the listed variables hold what the program's text lays (tied), the law returns true: a syntax error lies at a token, and the source before it is a viable prefix. (printed by syncard.py) -/
import Derived.Test.YtpmalchlecnjbaaGreatDoorLCPlaces71
import Derived.Test.YtpmalchlecnjbaaGreatDoorB48
import Derived.Test.YtpmalchlecnjbaaGreatDoorB01
import Derived.Test.YtpmalchlecnjbaaGreatDoorCards
import Derived.Test.YtpmalchlecnjbaaGreatDoorTie
import Derived.Deep.DeepHandedRow
import Derived.Deep.DeepWitnessRef
set_option maxRecDepth 100000
set_option linter.unusedVariables false
set_option linter.unusedSimpArgs false
/- SyntaxPlaces's card: where the listed variables hold what the program's text lays (tied), the law returns true: a syntax error lies at a token, and the source before it is a viable prefix. (printed by syncard.py) -/
namespace Go.Proofs.YtpmalchlecnjbaaGreatDoor
open Go.ChangeShapes Go.WideShapes Go.ChangeAt Go.RowKit Go.Chalk

theorem places7_contract (H:Type) (enc:TypeId×Value->H) (W:World) (base:Nat) (args:Array Value) (ds gs:List (DataW H)) (before:List MemPlace)
  (hval:∀ (j:Nat) t v,Tryz.f8.params[j]?=some t->args[j]?=some v->Value.okWide Tryz.prog W .any base t v)
  (hW:DataW.Whole enc Tryz.prog Tryz.f8.params.toList Rows.syntaxPlacesSpec.vars false W args.toList ds gs before) (hL:laidMetH Tryz.prog Rows.syntaxPlacesRow.laid W) (hS:W.ShapedOpen Tryz.prog) :
  Calls Tryz.prog 8 args W fun e W'=>∃ v,e=.returned v/\Rows.syntaxPlacesSpec.post enc Tryz.prog Tryz.f8 false true false false W args v W':=by
 have hW':=hW
 obtain ⟨p,q,hA0,hV,rfl,hfz,hnd⟩:=hW
 have r_:DataW.TrodAll enc Tryz.prog W 0 (fun _=>true) true Tryz.f8.params.toList args.toList ds p:=hA0
 rw [Tryz.params8] at r_ hval
 obtain ⟨v0,vs0,d0,ds0,p0,q0,hargs,rfl,rfl,h0,r0⟩:=trodAll_cons r_
 obtain ⟨rfl,rfl,rfl⟩:=trodAll_nil r0
 obtain rfl:args=#[v0]:=by cases args;simp_all
 obtain ⟨rfl,rfl⟩:=trodVars_none hV
 obtain ⟨l0,a0,b0,o0,c0,rfl,s0,g0,m0⟩:=bytes_arg (hval 0 _ v0 rfl rfl) h0
 have hg:GS W:=gs_of hS (show laidMetH Tryz.prog laidS W from hL)
 refine (places7_walk l0 a0 b0 o0 c0 W hg s0 g0).mono fun e W' ⟨he,hb'⟩=>?_
 subst he
 exact ⟨_,rfl,law_post laid rfl hW' (by kernel_rfl) rfl Tryz.underlying4 rfl hb'⟩

theorem places7_reads (os:Os) {H:Type} (enc:TypeId×Value->H):∃ places,DataW.whole enc Tryz.prog ((theW os).forCall (fun _ _=>0) ⟨#[],#[.slice none 0 0],[]⟩).memory Tryz.f8.params.toList Rows.syntaxPlacesSpec.vars false (#[.slice none 0 0]:Array Value).toList 8=some ([.nil],[],places) :=
 ⟨[],by kernel_rfl⟩

theorem places7_lifted (os:Os) (started:os.Started) (H:Type) (enc:TypeId×Value->H) (F:Stop.Interp) :
  ReturnsInHanded {} Tryz.checked os 8 .any ((OpenSpec.ofChange Rows.syntaxPlacesSpec).preRow enc Tryz.prog Tryz.f8 Rows.syntaxPlacesRow.domain false Rows.syntaxPlacesRow.laid) (((OpenSpec.ofChange Rows.syntaxPlacesSpec).at F).post enc Tryz.prog Tryz.f8 false true false false):=by
 obtain ⟨places,hx⟩:=places7_reads os enc
 obtain ⟨w1,t1,i1,k1,k2,k3,k4,k5,k6,_⟩:=OpenSpec.witness_stopped_atRef (enc:=enc) (C:=Tryz.checked) (fn:=Tryz.f8) (s:=(OpenSpec.ofChange Rows.syntaxPlacesSpec)) (conds:=Rows.syntaxPlacesRow.domain) (apart:=false) (laid:=Rows.syntaxPlacesRow.laid) (f:=8) false (theW os) #[.slice none 0 0] rfl (theW_vars os _) (theW_rest os _) (by kernel_rfl)
   (OpenSpec.preRow_of_cond 8 hx rfl (fun k hk=>by cases hk) (by kernel_rfl) (theW_met os _)) F
 refine returnsInHanded_of_row (C:=Tryz.checked) (s:=(OpenSpec.ofChange Rows.syntaxPlacesSpec)) own started (by kernel_rfl) Tryz.func8 ⟨w1,t1,i1,k1,k2,k3,k4,k5,k6⟩ ?_
 intro W base args ds gs before hval hW _ hcond _ hL hS _
 exact places7_contract H enc W base args ds gs before hval hW hL hS

theorem places7_k10:(Rows.syntaxPlacesRow.inPlace==Tryz.prog.inPlace 8)=true:=by kernel_rfl
theorem places7_k11:(Rows.syntaxPlacesRow.unfollowed==Tryz.prog.unfollowed 8)=true:=by kernel_rfl
theorem places7_k12:(Rows.syntaxPlacesRow.recurses==Tryz.prog.recurses 8)=true:=by kernel_rfl
theorem places7_k13:(Rows.syntaxPlacesRow.named==Tryz.prog.varsNamed 8)=true:=by kernel_rfl
theorem places7_k27:(Rows.syntaxPlacesRow.lifted==Tryz.prog.liftsFinal)=true:=by kernel_rfl
theorem places7_facts:joinedFacts Tryz.pinned.checked.prog 8 Tryz.f8 (OpenSpec.ofChange Rows.syntaxPlacesSpec).bare Rows.syntaxPlacesRow=true:=by
 unfold joinedFacts
 exact (andT (andT (andT (andT (andT (andT (andT (andT (andT (andT (andT (andT (andT (andT (andT (andT (andT (andT (andT (andT (andT (andT (andT (andT (andT (andT (andT (andT (andT (andT (andT (by kernel_rfl) card_k2) card_k3) (by kernel_rfl)) (by kernel_rfl)) (by kernel_rfl)) (by kernel_rfl)) (by kernel_rfl)) (by kernel_rfl)) places7_k10) places7_k11) places7_k12) places7_k13) (by kernel_rfl)) (by kernel_rfl)) (by kernel_rfl)) (by kernel_rfl)) (by kernel_rfl)) (by kernel_rfl)) (by kernel_rfl)) (by kernel_rfl)) (by kernel_rfl)) (by kernel_rfl)) (by kernel_rfl)) card_k25) card_k26) places7_k27) (by kernel_rfl)) (by kernel_rfl)) (by kernel_rfl)) (by kernel_rfl)) (by kernel_rfl))
theorem places7_said:Rows.SyntaxPlacesSaid :=
 OpenClaim.holds_of_cond 8 Tryz.f8 rfl rfl rfl rfl rfl rfl rfl ⟨rfl,rfl,rfl,rfl,rfl⟩ rfl rfl rfl rfl rfl (by kernel_rfl) Tryz.func8 places7_facts
  (of_decide_eq_true (by kernel_rfl)) (by unfold Func.isWrapper;first | (rw [if_pos (by decide +kernel)];kernel_rfl) | (rw [if_neg (by decide +kernel)];exact ⟨rfl,rfl⟩))
  (fun os started H enc _ F=>by rw [OpenClaim.pre_eq_preRow];exact places7_lifted os started H enc F)

theorem places7_cardplain (f : FuncId) (fn : Func) (hf : Tryz.pinned.checked.prog.funcNamed "chalkline/chalklinelaw07.SyntaxPlaces" = some f) (hfn : Tryz.pinned.checked.prog.funcs[f]? = some fn) :
  true=Tryz.pinned.checked.prog.looks []/\∀ (j:Nat) t,fn.params[j]?=some t->Tryz.pinned.checked.prog.wantsStandIn t=false:=by
 obtain rfl : f = 8 := Option.some.inj ((show Tryz.prog.funcNamed "chalkline/chalklinelaw07.SyntaxPlaces" = some 8 by kernel_rfl).symm.trans hf) |>.symm
 obtain rfl:fn=Tryz.f8:=(Option.some.inj (Tryz.func8.symm.trans hfn)).symm
 refine ⟨by kernel_rfl,fun j t ht=>?_⟩
 rw [Tryz.params8] at ht
 have hm:t∈[22]:=by simpa using Array.mem_of_getElem? ht
 have hall:([22].all fun u=>!Tryz.prog.wantsStandIn u)=true:=by kernel_rfl
 exact (show Tryz.prog.wantsStandIn t=false by simpa using List.all_eq_true.1 hall t hm)

theorem places7_card:Rows.SyntaxPlacesCardSaid :=
 Claim7.holds_tied_plain_at .later [] _ _ _ _ places7_said (fun _ h=>by cases h) (by kernel_rfl) (fun _ h=>by cases h) syntaxPlaces_row_tie rfl ⟨rfl,rfl⟩ (by kernel_rfl) rfl places7_cardplain (by kernel_rfl)
end Go.Proofs.YtpmalchlecnjbaaGreatDoor
