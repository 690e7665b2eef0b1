/- SyntaxTexts's card: where what comes in is of bulk at most 1048576 and the listed variables hold what the program's text lays (tied), the law returns true: Text agrees with the reference. (printed by syncard.py) -/
import Derived.Test.YtpmalchlecnjbaaGreatDoorLCTexts74
import Derived.Test.YtpmalchlecnjbaaGreatDoorT47
import Derived.Test.YtpmalchlecnjbaaGreatDoorT01
import Derived.Test.YtpmalchlecnjbaaGreatDoorCards
import Derived.Test.YtpmalchlecnjbaaGreatDoorTie
import Derived.Deep.DeepHandedRow
import Derived.Deep.DeepWitnessRef
set_option maxRecDepth 100000
set_option linter.unusedVariables false
set_option linter.unusedSimpArgs false
/- SyntaxTexts's card: where what comes in is of bulk at most 1048576 and the listed variables hold what the program's text lays (tied), the law returns true: Text agrees with the reference. (printed by syncard.py) -/
namespace Go.Proofs.YtpmalchlecnjbaaGreatDoor
open Go.ChangeShapes Go.WideShapes Go.ChangeAt Go.RowKit Go.Chalk

theorem texts7_contract (H:Type) (enc:TypeId×Value->H) (W:World) (base:Nat) (args:Array Value) (ds gs:List (DataW H)) (before:List MemPlace)
  (hval:∀ (j:Nat) t v,Tryz.f4.params[j]?=some t->args[j]?=some v->Value.okWide Tryz.prog W .any base t v)
  (hW:DataW.Whole enc Tryz.prog Tryz.f4.params.toList Rows.syntaxTextsSpec.vars false W args.toList ds gs before) (hk:Rows.uptoSmall H (ds++gs)=true) (hL:laidMetH Tryz.prog Rows.syntaxTextsUptoRow.laid W) (hS:W.ShapedOpen Tryz.prog) :
  Calls Tryz.prog 4 args W fun e W'=>∃ v,e=.returned v/\Rows.syntaxTextsSpec.post enc Tryz.prog Tryz.f4 false true false false W args v W':=by
 have hW':=hW
 obtain ⟨p,q,hA0,hV,rfl,hfz,hnd⟩:=hW
 have r_:DataW.TrodAll enc Tryz.prog W 0 (fun _=>true) true Tryz.f4.params.toList args.toList ds p:=hA0
 rw [Tryz.params4] at r_ hval
 obtain ⟨v0,vs0,d0,ds0,p0,q0,hargs,rfl,rfl,h0,r0⟩:=trodAll_cons r_
 obtain ⟨rfl,rfl,rfl⟩:=trodAll_nil r0
 obtain rfl:args=#[v0]:=by cases args;simp_all
 obtain ⟨rfl,rfl⟩:=trodVars_none hV
 obtain ⟨f0,x0,e0,rfl,g0⟩:=frm_arg (hval 0 _ v0 rfl rfl) h0
 have hg:GS W:=gs_of hS (show laidMetH Tryz.prog laidS W from hL)
 have hb:=small_bulk hk
 simp only [List.append_nil,D.ofAll,D.of,D.bulk,bulks,e0] at hb
 refine (texts_walk f0 x0 W hg (Frm.fit (f:=f0) (by omega)) g0).mono fun e W' ⟨he,hb'⟩=>?_
 subst he
 exact ⟨_,rfl,law_post laid rfl hW' (by kernel_rfl) rfl Tryz.underlying4 rfl hb'⟩

theorem texts7_reads (os:Os) {H:Type} (enc:TypeId×Value->H):∃ places,DataW.whole enc Tryz.prog ((theW os).forCall (fun _ _=>0) ⟨#[],#[.agg #[.int .i64 0,.string ByteArray.empty,.int .i64 0,.slice none 0 0,.slice none 0 0,.slice none 0 0]],[]⟩).memory Tryz.f4.params.toList Rows.syntaxTextsSpec.vars false (#[.agg #[.int .i64 0,.string ByteArray.empty,.int .i64 0,.slice none 0 0,.slice none 0 0,.slice none 0 0]]:Array Value).toList 8=some ([.agg [.lit (.int .i64 0),.lit (.string []),.lit (.int .i64 0),.nil,.nil,.nil]],[],places) :=
 ⟨[],by kernel_rfl⟩

theorem texts7_lifted (os:Os) (started:os.Started) (H:Type) (enc:TypeId×Value->H) (F:Stop.Interp) :
  ReturnsInHanded {} Tryz.checked os 4 .any ((Rows.OpenSpec.upto Rows.syntaxTextsSpec).preRow enc Tryz.prog Tryz.f4 Rows.syntaxTextsUptoRow.domain false Rows.syntaxTextsUptoRow.laid) (((Rows.OpenSpec.upto Rows.syntaxTextsSpec).at F).post enc Tryz.prog Tryz.f4 false true false false):=by
 obtain ⟨places,hx⟩:=texts7_reads os enc
 obtain ⟨w1,t1,i1,k1,k2,k3,k4,k5,k6,_⟩:=OpenSpec.witness_stopped_atRef (enc:=enc) (C:=Tryz.checked) (fn:=Tryz.f4) (s:=(Rows.OpenSpec.upto Rows.syntaxTextsSpec)) (conds:=Rows.syntaxTextsUptoRow.domain) (apart:=false) (laid:=Rows.syntaxTextsUptoRow.laid) (f:=4) false (theW os) #[.agg #[.int .i64 0,.string ByteArray.empty,.int .i64 0,.slice none 0 0,.slice none 0 0,.slice none 0 0]] rfl (theW_vars os _) (theW_rest os _) (by kernel_rfl)
   (OpenSpec.preRow_of_cond 8 hx rfl (fun k hk=>by cases hk;kernel_rfl) (by kernel_rfl) (theW_met os _)) F
 refine returnsInHanded_of_row (C:=Tryz.checked) (s:=(Rows.OpenSpec.upto Rows.syntaxTextsSpec)) own started (by kernel_rfl) Tryz.func4 ⟨w1,t1,i1,k1,k2,k3,k4,k5,k6⟩ ?_
 intro W base args ds gs before hval hW _ hcond _ hL hS _
 exact texts7_contract H enc W base args ds gs before hval hW (hcond _ rfl) hL hS

theorem texts7_k10:(Rows.syntaxTextsUptoRow.inPlace==Tryz.prog.inPlace 4)=true:=by kernel_rfl
theorem texts7_k11:(Rows.syntaxTextsUptoRow.unfollowed==Tryz.prog.unfollowed 4)=true:=by kernel_rfl
theorem texts7_k12:(Rows.syntaxTextsUptoRow.recurses==Tryz.prog.recurses 4)=true:=by kernel_rfl
theorem texts7_k13:(Rows.syntaxTextsUptoRow.named==Tryz.prog.varsNamed 4)=true:=by kernel_rfl
theorem texts7_k27:(Rows.syntaxTextsUptoRow.lifted==Tryz.prog.liftsFinal)=true:=by kernel_rfl
theorem texts7_facts:joinedFacts Tryz.pinned.checked.prog 4 Tryz.f4 (Rows.OpenSpec.upto Rows.syntaxTextsSpec).bare Rows.syntaxTextsUptoRow=true:=by
 unfold joinedFacts
 exact (andT (andT (andT (andT (andT (andT (andT (andT (andT (andT (andT (andT (andT (andT (andT (andT (andT (andT (andT (andT (andT (andT (andT (andT (andT (andT (andT (andT (andT (andT (andT (by kernel_rfl) card_k2) card_k3) (by kernel_rfl)) (by kernel_rfl)) (by kernel_rfl)) (by kernel_rfl)) (by kernel_rfl)) (by kernel_rfl)) texts7_k10) texts7_k11) texts7_k12) texts7_k13) (by kernel_rfl)) (by kernel_rfl)) (by kernel_rfl)) (by kernel_rfl)) (by kernel_rfl)) (by kernel_rfl)) (by kernel_rfl)) (by kernel_rfl)) (by kernel_rfl)) (by kernel_rfl)) (by kernel_rfl)) card_k25) card_k26) texts7_k27) (by kernel_rfl)) (by kernel_rfl)) (by kernel_rfl)) (by kernel_rfl)) (by kernel_rfl))
theorem texts7_said:Rows.SyntaxTextsUptoSaid :=
 OpenClaim.holds_of_cond 4 Tryz.f4 rfl rfl rfl rfl rfl rfl rfl ⟨rfl,rfl,rfl,rfl,rfl⟩ rfl rfl rfl rfl rfl (by kernel_rfl) Tryz.func4 texts7_facts
  (of_decide_eq_true (by kernel_rfl)) (by unfold Func.isWrapper;first | (rw [if_pos (by decide +kernel)];kernel_rfl) | (rw [if_neg (by decide +kernel)];exact ⟨rfl,rfl⟩))
  (fun os started H enc _ F=>by rw [OpenClaim.pre_eq_preRow];exact texts7_lifted os started H enc F)

theorem texts7_cardplain (f : FuncId) (fn : Func) (hf : Tryz.pinned.checked.prog.funcNamed "chalkline/chalklinelaw07.SyntaxTexts" = some f) (hfn : Tryz.pinned.checked.prog.funcs[f]? = some fn) :
  true=Tryz.pinned.checked.prog.looks []/\∀ (j:Nat) t,fn.params[j]?=some t->Tryz.pinned.checked.prog.wantsStandIn t=false:=by
 obtain rfl : f = 4 := Option.some.inj ((show Tryz.prog.funcNamed "chalkline/chalklinelaw07.SyntaxTexts" = some 4 by kernel_rfl).symm.trans hf) |>.symm
 obtain rfl:fn=Tryz.f4:=(Option.some.inj (Tryz.func4.symm.trans hfn)).symm
 refine ⟨by kernel_rfl,fun j t ht=>?_⟩
 rw [Tryz.params4] at ht
 have hm:t∈[28]:=by simpa using Array.mem_of_getElem? ht
 have hall:([28].all fun u=>!Tryz.prog.wantsStandIn u)=true:=by kernel_rfl
 exact (show Tryz.prog.wantsStandIn t=false by simpa using List.all_eq_true.1 hall t hm)

theorem texts7_card:Rows.SyntaxTextsUptoCardSaid :=
 Claim7.holds_tied_plain_at .later [] _ _ _ _ texts7_said (fun _ h=>by cases h) (by kernel_rfl) (fun _ h=>by cases h) syntaxTextsUpto_row_tie rfl ⟨rfl,rfl⟩ (by kernel_rfl) rfl texts7_cardplain (by kernel_rfl)
end Go.Proofs.YtpmalchlecnjbaaGreatDoor
