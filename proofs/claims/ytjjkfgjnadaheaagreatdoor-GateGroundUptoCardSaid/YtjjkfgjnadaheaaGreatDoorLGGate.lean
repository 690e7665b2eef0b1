/- GateGround's card: where what comes in is of bulk at most 1048576 and the listed variables hold what the program's text lays (tied), the law returns true: the literal of a grounded formula is true for a week exactly where the formula holds in it. (printed by evalcard.py) -/
import Derived.Test.YtjjkfgjnadaheaaGreatDoorLGGate23
import Derived.Test.YtjjkfgjnadaheaaGreatDoorG25
import Derived.Test.YtjjkfgjnadaheaaGreatDoorG01
import Derived.Test.YtjjkfgjnadaheaaGreatDoorCards
import Derived.Test.YtjjkfgjnadaheaaGreatDoorTie
import Derived.Deep.DeepHandedRow
set_option maxRecDepth 100000
set_option linter.unusedVariables false
set_option linter.unusedSimpArgs false
namespace Go.Proofs.YtjjkfgjnadaheaaGreatDoor
open Go.ChangeShapes Go.WideShapes Go.ChangeAt Go.RowKit Go.Chalk
theorem ggate_contract (H:Type) (enc:TypeId×Value->H) (W:World) (base:Nat) (args:Array Value) (ds gs:List (DataW H)) (before:List MemPlace)
  (hval:∀ (j:Nat) t v,Tryz.f9.params[j]?=some t->args[j]?=some v->Value.okWide Tryz.prog W .any base t v)
  (hW:DataW.Whole enc Tryz.prog Tryz.f9.params.toList Rows.gateGroundSpec.vars false W args.toList ds gs before) (hk:Rows.uptoSmall H (ds++gs)=true) (hL:laidMetH Tryz.prog Rows.gateGroundUptoRow.laid W) (hS:W.ShapedOpen Tryz.prog) :
  Calls Tryz.prog 9 args W fun e W'=>∃ v,e=.returned v/\Rows.gateGroundSpec.post enc Tryz.prog Tryz.f9 false true false false W args v W':=by
 have hW':=hW
 obtain ⟨p,q,hA0,hV,rfl,hfz,hnd⟩:=hW
 have r_:DataW.TrodAll enc Tryz.prog W 0 (fun _=>true) true Tryz.f9.params.toList args.toList ds p:=hA0
 rw [Tryz.params9] at r_ hval
 obtain ⟨v0,vs0,d0,ds0,p0,q0,hargs,rfl,rfl,h0,r0⟩:=trodAll_cons r_
 obtain ⟨v1,vs1,d1,ds1,p1,q1,rfl,rfl,rfl,h1,r1⟩:=trodAll_cons r0
 obtain ⟨v2,vs2,d2,ds2,p2,q2,rfl,rfl,rfl,h2,r2⟩:=trodAll_cons r1
 obtain ⟨v3,vs3,d3,ds3,p3,q3,rfl,rfl,rfl,h3,r3⟩:=trodAll_cons r2
 obtain ⟨rfl,rfl,rfl⟩:=trodAll_nil r3
 obtain rfl:args=#[v0,v1,v2,v3]:=by cases args;simp_all
 obtain ⟨rfl,rfl⟩:=trodVars_none hV
 obtain ⟨s0,x0,e0,rfl,g0⟩:=sch_arg (hval 0 _ v0 rfl rfl) h0
 obtain ⟨l1,x1,e1,rfl,g1⟩:=envs_arg (hval 1 _ v1 rfl rfl) h1
 obtain ⟨f2,x2,e2,rfl,g2⟩:=frm_arg (hval 2 _ v2 rfl rfl) h2
 obtain ⟨l3,x3,e3,rfl,g3⟩:=week_arg (hval 3 _ v3 rfl rfl) h3
 have hb:=small_bulk hk
 simp only [List.append_nil,D.ofAll,D.of,D.bulk,bulks,e0,e1,e2,e3] at hb
 have z2:=Frm.bulk_size f2
 refine (ggate_walk s0 x0 l3 x3 l1 x1 f2 x2 W itoa_at (Schl.fit (s:=s0) (by omega)) (Frm.fit (f:=f2) (by omega)) (gg_of hS (show laidMetH Tryz.prog Rows.gateGroundUptoRow.laid W from hL)) g0 g3 (by have:=plcs_fit (l:=l3) (by omega);omega) g1 (by have:=(evs_fit (l:=l1) (by omega)).1;omega) (evs_fit (l:=l1) (by omega)).2 g2).mono fun e W' ⟨he,hb'⟩=>?_
 subst he
 exact ⟨_,rfl,law_post laid rfl hW' (by kernel_rfl) rfl Tryz.underlying4 rfl hb'⟩
theorem ggate_reads (os:Os) {H:Type} (enc:TypeId×Value->H):∃ places,DataW.whole enc Tryz.prog ((theW os).forCall (fun _ _=>0) ⟨#[],#[.agg #[.slice none 0 0,.slice none 0 0,.slice none 0 0,.slice none 0 0,.slice none 0 0],.slice none 0 0,.agg #[.int .i64 0,.string ByteArray.empty,.int .i64 0,.slice none 0 0,.slice none 0 0,.slice none 0 0],.agg #[.slice none 0 0]],[]⟩).memory Tryz.f9.params.toList Rows.gateGroundSpec.vars false (#[.agg #[.slice none 0 0,.slice none 0 0,.slice none 0 0,.slice none 0 0,.slice none 0 0],.slice none 0 0,.agg #[.int .i64 0,.string ByteArray.empty,.int .i64 0,.slice none 0 0,.slice none 0 0,.slice none 0 0],.agg #[.slice none 0 0]]:Array Value).toList 8=some ([.agg [.nil,.nil,.nil,.nil,.nil],.nil,.agg [.lit (.int .i64 0),.lit (.string []),.lit (.int .i64 0),.nil,.nil,.nil],.agg [.nil]],[],places) :=
 ⟨[],by kernel_rfl⟩
theorem ggate_lifted (os:Os) (started:os.Started) (H:Type) (enc:TypeId×Value->H) (F:Stop.Interp) :
  ReturnsInHanded {} Tryz.checked os 9 .any ((Rows.OpenSpec.upto Rows.gateGroundSpec).preRow enc Tryz.prog Tryz.f9 Rows.gateGroundUptoRow.domain false Rows.gateGroundUptoRow.laid) (((Rows.OpenSpec.upto Rows.gateGroundSpec).at F).post enc Tryz.prog Tryz.f9 false true false false):=by
 obtain ⟨places,hx⟩:=ggate_reads os enc
 obtain ⟨w1,t1,i1,k1,k2,k3,k4,k5,k6,_⟩:=OpenSpec.witness_stopped_atRef (enc:=enc) (C:=Tryz.checked) (fn:=Tryz.f9) (s:=Rows.OpenSpec.upto Rows.gateGroundSpec) (conds:=Rows.gateGroundUptoRow.domain) (apart:=false) (laid:=Rows.gateGroundUptoRow.laid) (f:=9) false (theW os) #[.agg #[.slice none 0 0,.slice none 0 0,.slice none 0 0,.slice none 0 0,.slice none 0 0],.slice none 0 0,.agg #[.int .i64 0,.string ByteArray.empty,.int .i64 0,.slice none 0 0,.slice none 0 0,.slice none 0 0],.agg #[.slice none 0 0]] rfl (theW_vars os _) (theW_rest os _) (by kernel_rfl)
   (OpenSpec.preRow_of_cond 8 hx rfl (fun k hk=>by cases hk;kernel_rfl) (by kernel_rfl) (theW_met os _)) F
 refine returnsInHanded_of_row (C:=Tryz.checked) (s:=Rows.OpenSpec.upto Rows.gateGroundSpec) own started (by kernel_rfl) Tryz.func9 ⟨w1,t1,i1,k1,k2,k3,k4,k5,k6⟩ ?_
 intro W base args ds gs before hval hW _ hcond _ hL hS _
 exact ggate_contract H enc W base args ds gs before hval hW (hcond _ rfl) hL hS
theorem ggate_k10:(Rows.gateGroundUptoRow.inPlace==Tryz.prog.inPlace 9)=true:=by kernel_rfl
theorem ggate_k11:(Rows.gateGroundUptoRow.unfollowed==Tryz.prog.unfollowed 9)=true:=by kernel_rfl
theorem ggate_k12:(Rows.gateGroundUptoRow.recurses==Tryz.prog.recurses 9)=true:=by kernel_rfl
theorem ggate_k13:(Rows.gateGroundUptoRow.named==Tryz.prog.varsNamed 9)=true:=by kernel_rfl
theorem ggate_k27:(Rows.gateGroundUptoRow.lifted==Tryz.prog.liftsFinal)=true:=by kernel_rfl
theorem ggate_facts:joinedFacts Tryz.pinned.checked.prog 9 Tryz.f9 (Rows.OpenSpec.upto Rows.gateGroundSpec).bare Rows.gateGroundUptoRow=true:=by
 unfold joinedFacts
 exact (andT (andT (andT (andT (andT (andT (andT (andT (andT (andT (andT (andT (andT (andT (andT (andT (andT (andT (andT (andT (andT (andT (andT (andT (andT (andT (andT (andT (andT (andT (andT (by kernel_rfl) card_k2) card_k3) (by kernel_rfl)) (by kernel_rfl)) (by kernel_rfl)) (by kernel_rfl)) (by kernel_rfl)) (by kernel_rfl)) ggate_k10) ggate_k11) ggate_k12) ggate_k13) (by kernel_rfl)) (by kernel_rfl)) (by kernel_rfl)) (by kernel_rfl)) (by kernel_rfl)) (by kernel_rfl)) (by kernel_rfl)) (by kernel_rfl)) (by kernel_rfl)) (by kernel_rfl)) (by kernel_rfl)) card_k25) card_k26) ggate_k27) (by kernel_rfl)) (by kernel_rfl)) (by kernel_rfl)) (by kernel_rfl)) (by kernel_rfl))
theorem ggate_said:Rows.GateGroundUptoSaid :=
 OpenClaim.holds_of_cond 9 Tryz.f9 rfl rfl rfl rfl rfl rfl rfl ⟨rfl,rfl,rfl,rfl,rfl⟩ rfl rfl rfl rfl rfl (by kernel_rfl) Tryz.func9 ggate_facts
  (of_decide_eq_true (by kernel_rfl)) (by unfold Func.isWrapper;first | (rw [if_pos (by decide +kernel)];kernel_rfl) | (rw [if_neg (by decide +kernel)];exact ⟨rfl,rfl⟩))
  (fun os started H enc _ F=>by rw [OpenClaim.pre_eq_preRow];exact ggate_lifted os started H enc F)
theorem ggate_cardplain (f : FuncId) (fn : Func) (hf : Tryz.pinned.checked.prog.funcNamed "chalkline/chalklinelaw13.GateGround" = some f) (hfn : Tryz.pinned.checked.prog.funcs[f]? = some fn) :
  true=Tryz.pinned.checked.prog.looks []/\∀ (j:Nat) t,fn.params[j]?=some t->Tryz.pinned.checked.prog.wantsStandIn t=false:=by
 obtain rfl : f = 9 := Option.some.inj ((show Tryz.prog.funcNamed "chalkline/chalklinelaw13.GateGround" = some 9 by kernel_rfl).symm.trans hf) |>.symm
 obtain rfl:fn=Tryz.f9:=(Option.some.inj (Tryz.func9.symm.trans hfn)).symm
 refine ⟨by kernel_rfl,fun j t ht=>?_⟩
 rw [Tryz.params9] at ht
 have hm:t∈[28,29,34,50]:=by simpa using Array.mem_of_getElem? ht
 have hall:([28,29,34,50].all fun u=>!Tryz.prog.wantsStandIn u)=true:=by kernel_rfl
 exact (show Tryz.prog.wantsStandIn t=false by simpa using List.all_eq_true.1 hall t hm)
theorem ggate_card:Rows.GateGroundUptoCardSaid :=
 Claim7.holds_tied_plain_at .later [] _ _ _ _ ggate_said (fun _ h=>by cases h) (by kernel_rfl) (fun _ h=>by cases h) gateGroundUpto_row_tie rfl ⟨rfl,rfl⟩ (by kernel_rfl) rfl ggate_cardplain (by kernel_rfl)
end Go.Proofs.YtjjkfgjnadaheaaGreatDoor
