/- SyntaxOnce's card: where what comes in is of bulk at most 1048576 and the listed variables hold what the program's text lays (tied), the law returns true: parsing a printed formula returns the same formula. (printed by syncard.py) -/
import Derived.Test.YtpmalchlecnjbaaGreatDoorLCOnce1
import Derived.Test.YtpmalchlecnjbaaGreatDoorB48
import Derived.Test.YtpmalchlecnjbaaGreatDoorB01
import Derived.Test.YtpmalchlecnjbaaGreatDoorCards
import Derived.Test.YtpmalchlecnjbaaGreatDoorTie
import Derived.Deep.DeepHandedRow
import Derived.Deep.DeepWitnessRef
set_option maxRecDepth 100000
set_option linter.unusedVariables false
set_option linter.unusedSimpArgs false
/- SyntaxOnce's card: where what comes in is of bulk at most 1048576 and the listed variables hold what the program's text lays (tied), the law returns true: parsing a printed formula returns the same formula. (printed by syncard.py) -/
namespace Go.Proofs.YtpmalchlecnjbaaGreatDoor
open Go.ChangeShapes Go.WideShapes Go.ChangeAt Go.RowKit Go.Chalk

theorem once_contract (H:Type) (enc:TypeId×Value->H) (W:World) (base:Nat) (args:Array Value) (ds gs:List (DataW H)) (before:List MemPlace)
  (hval:∀ (j:Nat) t v,Tryz.f9.params[j]?=some t->args[j]?=some v->Value.okWide Tryz.prog W .any base t v)
  (hW:DataW.Whole enc Tryz.prog Tryz.f9.params.toList Rows.syntaxOnceSpec.vars false W args.toList ds gs before) (hk:Rows.uptoSmall H (ds++gs)=true) (hL:laidMetH Tryz.prog Rows.syntaxOnceUptoRow.laid W) (hS:W.ShapedOpen Tryz.prog) :
  Calls Tryz.prog 9 args W fun e W'=>∃ v,e=.returned v/\Rows.syntaxOnceSpec.post enc Tryz.prog Tryz.f9 false true false false W args v W':=by
 have hW':=hW
 obtain ⟨p,q,hA0,hV,rfl,hfz,hnd⟩:=hW
 have r_:DataW.TrodAll enc Tryz.prog W 0 (fun _=>true) true Tryz.f9.params.toList args.toList ds p:=hA0
 rw [Tryz.params9] at r_ hval
 obtain ⟨v0,vs0,d0,ds0,p0,q0,hargs,rfl,rfl,h0,r0⟩:=trodAll_cons r_
 obtain ⟨rfl,rfl,rfl⟩:=trodAll_nil r0
 obtain rfl:args=#[v0]:=by cases args;simp_all
 obtain ⟨rfl,rfl⟩:=trodVars_none hV
 obtain ⟨f0,x0,e0,rfl,g0⟩:=frm_arg (hval 0 _ v0 rfl rfl) h0
 have hg:GS W:=gs_of hS (show laidMetH Tryz.prog laidS W from hL)
 have hb:=small_bulk hk
 simp only [List.append_nil,D.ofAll,D.of,D.bulk,bulks,e0] at hb
 refine (once_walk f0 x0 W hg (Frm.fit (f:=f0) (by omega)) g0).mono fun e W' ⟨he,hb'⟩=>?_
 subst he
 exact ⟨_,rfl,law_post laid rfl hW' (by kernel_rfl) rfl Tryz.underlying4 rfl hb'⟩

theorem once_reads (os:Os) {H:Type} (enc:TypeId×Value->H):∃ places,DataW.whole enc Tryz.prog ((theW os).forCall (fun _ _=>0) ⟨#[],#[.agg #[.int .i64 0,.string ByteArray.empty,.int .i64 0,.slice none 0 0,.slice none 0 0,.slice none 0 0]],[]⟩).memory Tryz.f9.params.toList Rows.syntaxOnceSpec.vars false (#[.agg #[.int .i64 0,.string ByteArray.empty,.int .i64 0,.slice none 0 0,.slice none 0 0,.slice none 0 0]]:Array Value).toList 8=some ([.agg [.lit (.int .i64 0),.lit (.string []),.lit (.int .i64 0),.nil,.nil,.nil]],[],places) :=
 ⟨[],by kernel_rfl⟩

theorem once_lifted (os:Os) (started:os.Started) (H:Type) (enc:TypeId×Value->H) (F:Stop.Interp) :
  ReturnsInHanded {} Tryz.checked os 9 .any ((Rows.OpenSpec.upto Rows.syntaxOnceSpec).preRow enc Tryz.prog Tryz.f9 Rows.syntaxOnceUptoRow.domain false Rows.syntaxOnceUptoRow.laid) (((Rows.OpenSpec.upto Rows.syntaxOnceSpec).at F).post enc Tryz.prog Tryz.f9 false true false false):=by
 obtain ⟨places,hx⟩:=once_reads os enc
 obtain ⟨w1,t1,i1,k1,k2,k3,k4,k5,k6,_⟩:=OpenSpec.witness_stopped_atRef (enc:=enc) (C:=Tryz.checked) (fn:=Tryz.f9) (s:=(Rows.OpenSpec.upto Rows.syntaxOnceSpec)) (conds:=Rows.syntaxOnceUptoRow.domain) (apart:=false) (laid:=Rows.syntaxOnceUptoRow.laid) (f:=9) false (theW os) #[.agg #[.int .i64 0,.string ByteArray.empty,.int .i64 0,.slice none 0 0,.slice none 0 0,.slice none 0 0]] rfl (theW_vars os _) (theW_rest os _) (by kernel_rfl)
   (OpenSpec.preRow_of_cond 8 hx rfl (fun k hk=>by cases hk;kernel_rfl) (by kernel_rfl) (theW_met os _)) F
 refine returnsInHanded_of_row (C:=Tryz.checked) (s:=(Rows.OpenSpec.upto Rows.syntaxOnceSpec)) own started (by kernel_rfl) Tryz.func9 ⟨w1,t1,i1,k1,k2,k3,k4,k5,k6⟩ ?_
 intro W base args ds gs before hval hW _ hcond _ hL hS _
 exact once_contract H enc W base args ds gs before hval hW (hcond _ rfl) hL hS

theorem once_k10:(Rows.syntaxOnceUptoRow.inPlace==Tryz.prog.inPlace 9)=true:=by kernel_rfl
theorem once_k11:(Rows.syntaxOnceUptoRow.unfollowed==Tryz.prog.unfollowed 9)=true:=by kernel_rfl
theorem once_k12:(Rows.syntaxOnceUptoRow.recurses==Tryz.prog.recurses 9)=true:=by kernel_rfl
theorem once_k13:(Rows.syntaxOnceUptoRow.named==Tryz.prog.varsNamed 9)=true:=by kernel_rfl
theorem once_k27:(Rows.syntaxOnceUptoRow.lifted==Tryz.prog.liftsFinal)=true:=by kernel_rfl
theorem once_facts:joinedFacts Tryz.pinned.checked.prog 9 Tryz.f9 (Rows.OpenSpec.upto Rows.syntaxOnceSpec).bare Rows.syntaxOnceUptoRow=true:=by
 unfold joinedFacts
 exact (andT (andT (andT (andT (andT (andT (andT (andT (andT (andT (andT (andT (andT (andT (andT (andT (andT (andT (andT (andT (andT (andT (andT (andT (andT (andT (andT (andT (andT (andT (andT (by kernel_rfl) card_k2) card_k3) (by kernel_rfl)) (by kernel_rfl)) (by kernel_rfl)) (by kernel_rfl)) (by kernel_rfl)) (by kernel_rfl)) once_k10) once_k11) once_k12) once_k13) (by kernel_rfl)) (by kernel_rfl)) (by kernel_rfl)) (by kernel_rfl)) (by kernel_rfl)) (by kernel_rfl)) (by kernel_rfl)) (by kernel_rfl)) (by kernel_rfl)) (by kernel_rfl)) (by kernel_rfl)) card_k25) card_k26) once_k27) (by kernel_rfl)) (by kernel_rfl)) (by kernel_rfl)) (by kernel_rfl)) (by kernel_rfl))
theorem once_said:Rows.SyntaxOnceUptoSaid :=
 OpenClaim.holds_of_cond 9 Tryz.f9 rfl rfl rfl rfl rfl rfl rfl ⟨rfl,rfl,rfl,rfl,rfl⟩ rfl rfl rfl rfl rfl (by kernel_rfl) Tryz.func9 once_facts
  (of_decide_eq_true (by kernel_rfl)) (by unfold Func.isWrapper;first | (rw [if_pos (by decide +kernel)];kernel_rfl) | (rw [if_neg (by decide +kernel)];exact ⟨rfl,rfl⟩))
  (fun os started H enc _ F=>by rw [OpenClaim.pre_eq_preRow];exact once_lifted os started H enc F)

theorem once_cardplain (f : FuncId) (fn : Func) (hf : Tryz.pinned.checked.prog.funcNamed "chalkline/chalklinelaw07.SyntaxOnce" = some f) (hfn : Tryz.pinned.checked.prog.funcs[f]? = some fn) :
  true=Tryz.pinned.checked.prog.looks []/\∀ (j:Nat) t,fn.params[j]?=some t->Tryz.pinned.checked.prog.wantsStandIn t=false:=by
 obtain rfl : f = 9 := Option.some.inj ((show Tryz.prog.funcNamed "chalkline/chalklinelaw07.SyntaxOnce" = some 9 by kernel_rfl).symm.trans hf) |>.symm
 obtain rfl:fn=Tryz.f9:=(Option.some.inj (Tryz.func9.symm.trans hfn)).symm
 refine ⟨by kernel_rfl,fun j t ht=>?_⟩
 rw [Tryz.params9] at ht
 have hm:t∈[28]:=by simpa using Array.mem_of_getElem? ht
 have hall:([28].all fun u=>!Tryz.prog.wantsStandIn u)=true:=by kernel_rfl
 exact (show Tryz.prog.wantsStandIn t=false by simpa using List.all_eq_true.1 hall t hm)

theorem once_card:Rows.SyntaxOnceUptoCardSaid :=
 Claim7.holds_tied_plain_at .later [] _ _ _ _ once_said (fun _ h=>by cases h) (by kernel_rfl) (fun _ h=>by cases h) syntaxOnceUpto_row_tie rfl ⟨rfl,rfl⟩ (by kernel_rfl) rfl once_cardplain (by kernel_rfl)
end Go.Proofs.YtpmalchlecnjbaaGreatDoor
