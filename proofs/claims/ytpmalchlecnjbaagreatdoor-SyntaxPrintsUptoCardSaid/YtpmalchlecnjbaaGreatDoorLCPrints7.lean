/- SyntaxPrints's card: where what comes in is of bulk at most 1048576 and the listed variables hold what the program's text lays (tied), the law returns true: Print, Check and Same agree with the reference. (printed by syncard.py) -/
import Derived.Test.YtpmalchlecnjbaaGreatDoorLCPrints75
import Derived.Test.YtpmalchlecnjbaaGreatDoorU47
import Derived.Test.YtpmalchlecnjbaaGreatDoorU01
import Derived.Test.YtpmalchlecnjbaaGreatDoorCards
import Derived.Test.YtpmalchlecnjbaaGreatDoorTie
import Derived.Deep.DeepHandedRow
import Derived.Deep.DeepWitnessRef
set_option maxRecDepth 100000
set_option linter.unusedVariables false
set_option linter.unusedSimpArgs false
/- SyntaxPrints's card: where what comes in is of bulk at most 1048576 and the listed variables hold what the program's text lays (tied), the law returns true: Print, Check and Same agree with the reference. (printed by syncard.py) -/
namespace Go.Proofs.YtpmalchlecnjbaaGreatDoor
open Go.ChangeShapes Go.WideShapes Go.ChangeAt Go.RowKit Go.Chalk

theorem prints7_contract (H:Type) (enc:TypeId×Value->H) (W:World) (base:Nat) (args:Array Value) (ds gs:List (DataW H)) (before:List MemPlace)
  (hval:∀ (j:Nat) t v,Tryz.f11.params[j]?=some t->args[j]?=some v->Value.okWide Tryz.prog W .any base t v)
  (hW:DataW.Whole enc Tryz.prog Tryz.f11.params.toList Rows.syntaxPrintsSpec.vars false W args.toList ds gs before) (hk:Rows.uptoSmall H (ds++gs)=true) (hL:laidMetH Tryz.prog Rows.syntaxPrintsUptoRow.laid W) (hS:W.ShapedOpen Tryz.prog) :
  Calls Tryz.prog 11 args W fun e W'=>∃ v,e=.returned v/\Rows.syntaxPrintsSpec.post enc Tryz.prog Tryz.f11 false true false false W args v W':=by
 have hW':=hW
 obtain ⟨p,q,hA0,hV,rfl,hfz,hnd⟩:=hW
 have r_:DataW.TrodAll enc Tryz.prog W 0 (fun _=>true) true Tryz.f11.params.toList args.toList ds p:=hA0
 rw [Tryz.params11] at r_ hval
 obtain ⟨v0,vs0,d0,ds0,p0,q0,hargs,rfl,rfl,h0,r0⟩:=trodAll_cons r_
 obtain ⟨v1,vs1,d1,ds1,p1,q1,rfl,rfl,rfl,h1,r1⟩:=trodAll_cons r0
 obtain ⟨rfl,rfl,rfl⟩:=trodAll_nil r1
 obtain rfl:args=#[v0,v1]:=by cases args;simp_all
 obtain ⟨rfl,rfl⟩:=trodVars_none hV
 obtain ⟨l0,x0,e0,rfl,g0⟩:=rules_arg (hval 0 _ v0 rfl rfl) h0
 obtain ⟨l1,x1,e1,rfl,g1⟩:=rules_arg (hval 1 _ v1 rfl rfl) h1
 have hg:GS W:=gs_of hS (show laidMetH Tryz.prog laidS W from hL)
 have hb:=small_bulk hk
 simp only [List.append_nil,D.ofAll,D.of,D.bulk,bulks,e0,e1] at hb
 refine (prints_walk l0 l1 x0 x1 W hg g0 (by have:=(ruls_ru (l:=l0) (by omega)).1;omega) (ruls_ru (l:=l0) (by omega)).2 g1 (by have:=(ruls_ru (l:=l1) (by omega)).1;omega) (ruls_ru (l:=l1) (by omega)).2).mono fun e W' ⟨he,hb'⟩=>?_
 subst he
 exact ⟨_,rfl,law_post laid rfl hW' (by kernel_rfl) rfl Tryz.underlying4 rfl hb'⟩

theorem prints7_reads (os:Os) {H:Type} (enc:TypeId×Value->H):∃ places,DataW.whole enc Tryz.prog ((theW os).forCall (fun _ _=>0) ⟨#[],#[.slice none 0 0,.slice none 0 0],[]⟩).memory Tryz.f11.params.toList Rows.syntaxPrintsSpec.vars false (#[.slice none 0 0,.slice none 0 0]:Array Value).toList 8=some ([.nil,.nil],[],places) :=
 ⟨[],by kernel_rfl⟩

theorem prints7_lifted (os:Os) (started:os.Started) (H:Type) (enc:TypeId×Value->H) (F:Stop.Interp) :
  ReturnsInHanded {} Tryz.checked os 11 .any ((Rows.OpenSpec.upto Rows.syntaxPrintsSpec).preRow enc Tryz.prog Tryz.f11 Rows.syntaxPrintsUptoRow.domain false Rows.syntaxPrintsUptoRow.laid) (((Rows.OpenSpec.upto Rows.syntaxPrintsSpec).at F).post enc Tryz.prog Tryz.f11 false true false false):=by
 obtain ⟨places,hx⟩:=prints7_reads os enc
 obtain ⟨w1,t1,i1,k1,k2,k3,k4,k5,k6,_⟩:=OpenSpec.witness_stopped_atRef (enc:=enc) (C:=Tryz.checked) (fn:=Tryz.f11) (s:=(Rows.OpenSpec.upto Rows.syntaxPrintsSpec)) (conds:=Rows.syntaxPrintsUptoRow.domain) (apart:=false) (laid:=Rows.syntaxPrintsUptoRow.laid) (f:=11) false (theW os) #[.slice none 0 0,.slice none 0 0] rfl (theW_vars os _) (theW_rest os _) (by kernel_rfl)
   (OpenSpec.preRow_of_cond 8 hx rfl (fun k hk=>by cases hk;kernel_rfl) (by kernel_rfl) (theW_met os _)) F
 refine returnsInHanded_of_row (C:=Tryz.checked) (s:=(Rows.OpenSpec.upto Rows.syntaxPrintsSpec)) own started (by kernel_rfl) Tryz.func11 ⟨w1,t1,i1,k1,k2,k3,k4,k5,k6⟩ ?_
 intro W base args ds gs before hval hW _ hcond _ hL hS _
 exact prints7_contract H enc W base args ds gs before hval hW (hcond _ rfl) hL hS

theorem prints7_k10:(Rows.syntaxPrintsUptoRow.inPlace==Tryz.prog.inPlace 11)=true:=by kernel_rfl
theorem prints7_k11:(Rows.syntaxPrintsUptoRow.unfollowed==Tryz.prog.unfollowed 11)=true:=by kernel_rfl
theorem prints7_k12:(Rows.syntaxPrintsUptoRow.recurses==Tryz.prog.recurses 11)=true:=by kernel_rfl
theorem prints7_k13:(Rows.syntaxPrintsUptoRow.named==Tryz.prog.varsNamed 11)=true:=by kernel_rfl
theorem prints7_k27:(Rows.syntaxPrintsUptoRow.lifted==Tryz.prog.liftsFinal)=true:=by kernel_rfl
theorem prints7_facts:joinedFacts Tryz.pinned.checked.prog 11 Tryz.f11 (Rows.OpenSpec.upto Rows.syntaxPrintsSpec).bare Rows.syntaxPrintsUptoRow=true:=by
 unfold joinedFacts
 exact (andT (andT (andT (andT (andT (andT (andT (andT (andT (andT (andT (andT (andT (andT (andT (andT (andT (andT (andT (andT (andT (andT (andT (andT (andT (andT (andT (andT (andT (andT (andT (by kernel_rfl) card_k2) card_k3) (by kernel_rfl)) (by kernel_rfl)) (by kernel_rfl)) (by kernel_rfl)) (by kernel_rfl)) (by kernel_rfl)) prints7_k10) prints7_k11) prints7_k12) prints7_k13) (by kernel_rfl)) (by kernel_rfl)) (by kernel_rfl)) (by kernel_rfl)) (by kernel_rfl)) (by kernel_rfl)) (by kernel_rfl)) (by kernel_rfl)) (by kernel_rfl)) (by kernel_rfl)) (by kernel_rfl)) card_k25) card_k26) prints7_k27) (by kernel_rfl)) (by kernel_rfl)) (by kernel_rfl)) (by kernel_rfl)) (by kernel_rfl))
theorem prints7_said:Rows.SyntaxPrintsUptoSaid :=
 OpenClaim.holds_of_cond 11 Tryz.f11 rfl rfl rfl rfl rfl rfl rfl ⟨rfl,rfl,rfl,rfl,rfl⟩ rfl rfl rfl rfl rfl (by kernel_rfl) Tryz.func11 prints7_facts
  (of_decide_eq_true (by kernel_rfl)) (by unfold Func.isWrapper;first | (rw [if_pos (by decide +kernel)];kernel_rfl) | (rw [if_neg (by decide +kernel)];exact ⟨rfl,rfl⟩))
  (fun os started H enc _ F=>by rw [OpenClaim.pre_eq_preRow];exact prints7_lifted os started H enc F)

theorem prints7_cardplain (f : FuncId) (fn : Func) (hf : Tryz.pinned.checked.prog.funcNamed "chalkline/chalklinelaw07.SyntaxPrints" = some f) (hfn : Tryz.pinned.checked.prog.funcs[f]? = some fn) :
  true=Tryz.pinned.checked.prog.looks []/\∀ (j:Nat) t,fn.params[j]?=some t->Tryz.pinned.checked.prog.wantsStandIn t=false:=by
 obtain rfl : f = 11 := Option.some.inj ((show Tryz.prog.funcNamed "chalkline/chalklinelaw07.SyntaxPrints" = some 11 by kernel_rfl).symm.trans hf) |>.symm
 obtain rfl:fn=Tryz.f11:=(Option.some.inj (Tryz.func11.symm.trans hfn)).symm
 refine ⟨by kernel_rfl,fun j t ht=>?_⟩
 rw [Tryz.params11] at ht
 have hm:t∈[38,38]:=by simpa using Array.mem_of_getElem? ht
 have hall:([38,38].all fun u=>!Tryz.prog.wantsStandIn u)=true:=by kernel_rfl
 exact (show Tryz.prog.wantsStandIn t=false by simpa using List.all_eq_true.1 hall t hm)

theorem prints7_card:Rows.SyntaxPrintsUptoCardSaid :=
 Claim7.holds_tied_plain_at .later [] _ _ _ _ prints7_said (fun _ h=>by cases h) (by kernel_rfl) (fun _ h=>by cases h) syntaxPrintsUpto_row_tie rfl ⟨rfl,rfl⟩ (by kernel_rfl) rfl prints7_cardplain (by kernel_rfl)
end Go.Proofs.YtpmalchlecnjbaaGreatDoor
