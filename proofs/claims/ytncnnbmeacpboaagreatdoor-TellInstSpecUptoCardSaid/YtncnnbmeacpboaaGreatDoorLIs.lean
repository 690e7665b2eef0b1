/- TellInstSpec's card: where what comes in is of bulk at most 1048576 and the listed variables hold what the program's text lays (tied), the law returns true: Inst answers as the reference's Inst does. (printed by tellcard.py) -/
import Derived.Test.YtncnnbmeacpboaaGreatDoorLIs22
import Derived.Test.YtncnnbmeacpboaaGreatDoorQ37
import Derived.Test.YtncnnbmeacpboaaGreatDoorQ01
import Derived.Test.YtncnnbmeacpboaaGreatDoorCards
import Derived.Test.YtncnnbmeacpboaaGreatDoorTie
import Derived.Deep.DeepHandedRow
set_option maxRecDepth 100000
set_option linter.unusedVariables false
set_option linter.unusedSimpArgs false
namespace Go.Proofs.YtncnnbmeacpboaaGreatDoor
open Go.ChangeShapes Go.WideShapes Go.ChangeAt Go.RowKit Go.aa
theorem xN(H:Type)(enc:TypeId×Value->H)(W:World)(base:Nat)(args:Array Value)(ds gs:List (DataW H))(before:List MemPlace)(hval:∀(j:Nat) t v,Tryz.f3.params[j]?=some t->args[j]?=some v->Value.okWide Tryz.prog W .any base t v)(hW:DataW.Whole enc Tryz.prog Tryz.f3.params.toList Rows.tellInstSpecSpec.vars false W args.toList ds gs before)(hk:Rows.uptoSmall H (ds++gs)=true)(hL:laidMetH Tryz.prog Rows.tellInstSpecUptoRow.laid W)(hS:W.ShapedOpen Tryz.prog):
  Calls Tryz.prog 3 args W fun e W'=>∃v,e=.returned v/\Rows.tellInstSpecSpec.post enc Tryz.prog Tryz.f3 false true false false W args v W':=by
 have hW':=hW;obtain⟨p,q,Ux,hV,rfl,hfz,hnd⟩:=hW;have r_:DataW.TrodAll enc Tryz.prog W 0 (fun _=>true) true Tryz.f3.params.toList args.toList ds p:=Ux;rw[Tryz.params3] at r_ hval;obtain⟨v0,vs0,d0,ds0,p0,q0,hargs,rfl,rfl,h0,r0⟩:=trodAll_cons r_;obtain⟨v1,vs1,d1,ds1,p1,q1,rfl,rfl,rfl,h1,r1⟩:=trodAll_cons r0;obtain⟨v2,vs2,d2,ds2,p2,q2,rfl,rfl,rfl,h2,r2⟩:=trodAll_cons r1;obtain⟨rfl,rfl,rfl⟩:=trodAll_nil r2;obtain rfl:args=#[v0,v1,v2]:=by cases args;simp_all
 obtain⟨rfl,rfl⟩:=trodVars_none hV;obtain⟨s0,x0,e0,rfl,g0⟩:=OZ (hval 0 _ v0 rfl rfl) h0;obtain⟨l1,x1,e1,rfl,g1⟩:=IA (hval 1 _ v1 rfl rfl) h1;obtain⟨i2,y2,e2,rfl,g2⟩:=K9 (hval 2 _ v2 rfl rfl) h2;have hb:=EH hk;simp only[List.append_nil,D.iU,D.of,D.bulk,dO,e0,e1,e2] at hb;refine(rZ s0 x0 l1 x1 i2 y2 W Ou g0 (aF.fit (s:=s0) (by omega)) g1 (by have:=(Cv (l:=l1) (by omega)).1;omega) (Cv (l:=l1) (by omega)).2.1 g2 (Ot (i:=i2) (by omega)) (SI hS (show laidMetH Tryz.prog Lj W from hL))).mono fun e W' ⟨he,hb'⟩=>?_;subst he;exact⟨_,rfl,Ll laid rfl hW' (by kernel_rfl) rfl Tryz.underlying4 rfl hb'⟩
theorem ER(os:Os){H:Type}(enc:TypeId×Value->H):∃places,DataW.whole enc Tryz.prog ((xM os).forCall (fun _ _=>0) ⟨#[],#[.agg #[.slice none 0 0,.slice none 0 0,.slice none 0 0,.slice none 0 0,.slice none 0 0],.slice none 0 0,.agg #[.int .i64 0,.slice none 0 0,.int .i64 0,.int .i64 0,.int .i64 0,.slice none 0 0]],[]⟩).memory Tryz.f3.params.toList Rows.tellInstSpecSpec.vars false (#[.agg #[.slice none 0 0,.slice none 0 0,.slice none 0 0,.slice none 0 0,.slice none 0 0],.slice none 0 0,.agg #[.int .i64 0,.slice none 0 0,.int .i64 0,.int .i64 0,.int .i64 0,.slice none 0 0]]:Array Value).toList 8=some ([.agg [.nil,.nil,.nil,.nil,.nil],.nil,.agg [.lit (.int .i64 0),.nil,.agg [.lit (.int .i64 0),.lit (.int .i64 0),.lit (.int .i64 0),.nil]]],[],places):=
 ⟨[],by kernel_rfl⟩
theorem CK(os:Os)(started:os.Started)(H:Type)(enc:TypeId×Value->H)(F:Stop.Interp):
  ReturnsInHanded {} Tryz.checked os 3 .any ((Rows.OpenSpec.upto Rows.tellInstSpecSpec).preRow enc Tryz.prog Tryz.f3 Rows.tellInstSpecUptoRow.domain false Rows.tellInstSpecUptoRow.laid) (((Rows.OpenSpec.upto Rows.tellInstSpecSpec).at F).post enc Tryz.prog Tryz.f3 false true false false):=by
 obtain⟨places,hx⟩:=ER os enc;obtain⟨w1,t1,i1,k1,k2,k3,k4,k5,k6,_⟩:=OpenSpec.witness_stopped_atRef (enc:=enc) (C:=Tryz.checked) (fn:=Tryz.f3) (s:=Rows.OpenSpec.upto Rows.tellInstSpecSpec) (conds:=Rows.tellInstSpecUptoRow.domain) (apart:=false) (laid:=Rows.tellInstSpecUptoRow.laid) (f:=3) false (xM os) #[.agg #[.slice none 0 0,.slice none 0 0,.slice none 0 0,.slice none 0 0,.slice none 0 0],.slice none 0 0,.agg #[.int .i64 0,.slice none 0 0,.int .i64 0,.int .i64 0,.int .i64 0,.slice none 0 0]] rfl (I1 os _) (IZ os _) (by kernel_rfl)
   (OpenSpec.preRow_of_cond 8 hx rfl (fun k hk=>by cases hk;kernel_rfl) (by kernel_rfl) (MI os _)) F
 refine returnsInHanded_of_row (C:=Tryz.checked) (s:=Rows.OpenSpec.upto Rows.tellInstSpecSpec) own started (by kernel_rfl) Tryz.func3 ⟨w1,t1,i1,k1,k2,k3,k4,k5,k6⟩ ?_;intro W base args ds gs before hval hW _ hcond _ hL hS _;exact xN H enc W base args ds gs before hval hW (hcond _ rfl) hL hS
theorem MK:(Rows.tellInstSpecUptoRow.inPlace==Tryz.prog.inPlace 3)=true:=by kernel_rfl
theorem ML:(Rows.tellInstSpecUptoRow.unfollowed==Tryz.prog.unfollowed 3)=true:=by kernel_rfl
theorem MM:(Rows.tellInstSpecUptoRow.recurses==Tryz.prog.recurses 3)=true:=by kernel_rfl
theorem MN:(Rows.tellInstSpecUptoRow.named==Tryz.prog.varsNamed 3)=true:=by kernel_rfl
theorem MO:(Rows.tellInstSpecUptoRow.lifted==Tryz.prog.liftsFinal)=true:=by kernel_rfl
theorem EP:joinedFacts Tryz.pinned.checked.prog 3 Tryz.f3 (Rows.OpenSpec.upto Rows.tellInstSpecSpec).bare Rows.tellInstSpecUptoRow=true:=by
 unfold joinedFacts;exact(iM (iM (iM (iM (iM (iM (iM (iM (iM (iM (iM (iM (iM (iM (iM (iM (iM (iM (iM (iM (iM (iM (iM (iM (iM (iM (iM (iM (iM (iM (iM (by kernel_rfl) NN) NP) (by kernel_rfl)) (by kernel_rfl)) (by kernel_rfl)) (by kernel_rfl)) (by kernel_rfl)) (by kernel_rfl)) MK) ML) MM) MN) (by kernel_rfl)) (by kernel_rfl)) (by kernel_rfl)) (by kernel_rfl)) (by kernel_rfl)) (by kernel_rfl)) (by kernel_rfl)) (by kernel_rfl)) (by kernel_rfl)) (by kernel_rfl)) (by kernel_rfl)) J8) J9) MO) (by kernel_rfl)) (by kernel_rfl)) (by kernel_rfl)) (by kernel_rfl)) (by kernel_rfl))
theorem I8:Rows.TellInstSpecUptoSaid:=
 OpenClaim.holds_of_cond 3 Tryz.f3 rfl rfl rfl rfl rfl rfl rfl ⟨rfl,rfl,rfl,rfl,rfl⟩ rfl rfl rfl rfl rfl (by kernel_rfl) Tryz.func3 EP
  (of_decide_eq_true (by kernel_rfl)) (by unfold Func.isWrapper;first|(rw[if_pos (by decide+kernel)];kernel_rfl)|(rw[if_neg (by decide+kernel)];exact⟨rfl,rfl⟩))
  (fun os started H enc _ F=>by rw[OpenClaim.pre_eq_preRow];exact CK os started H enc F)
theorem wJ(f:FuncId)(fn:Func)(hf:Tryz.pinned.checked.prog.funcNamed "chalkline/chalklinelaw31.TellInstSpec" =some f)(hfn:Tryz.pinned.checked.prog.funcs[f]? =some fn):
  false=Tryz.pinned.checked.prog.looks []/\∀(j:Nat) t,fn.params[j]?=some t->Tryz.pinned.checked.prog.wantsStandIn t=false:=by
 obtain rfl:f=3:=Option.some.inj ((show Tryz.prog.funcNamed "chalkline/chalklinelaw31.TellInstSpec" =some 3 by kernel_rfl).symm.trans hf) |>.symm
 obtain rfl:fn=Tryz.f3:=(Option.some.inj (Tryz.func3.symm.trans hfn)).symm;refine⟨by kernel_rfl,fun j t ht=>?_⟩;rw[Tryz.params3] at ht;have hm:t∈[28,29,35]:=by simpa using Array.mem_of_getElem? ht
 have hall:([28,29,35].all fun u=>!Tryz.prog.wantsStandIn u)=true:=by kernel_rfl
 exact(show Tryz.prog.wantsStandIn t=false by simpa using List.all_eq_true.1 hall t hm)
theorem tins_card:Rows.TellInstSpecUptoCardSaid:=
 Claim7.holds_tied_plain_at .later [] _ _ _ _ I8 (fun _ h=>by cases h) (by kernel_rfl) (fun _ h=>by cases h) tellInstSpecUpto_row_tie rfl ⟨rfl,rfl⟩ (by kernel_rfl) rfl wJ (by kernel_rfl)
end Go.Proofs.YtncnnbmeacpboaaGreatDoor
