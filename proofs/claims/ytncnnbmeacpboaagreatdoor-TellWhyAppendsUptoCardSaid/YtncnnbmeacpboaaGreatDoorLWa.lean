/- TellWhyAppends's card: where what comes in is of bulk at most 1048576 and the listed variables hold what the program's text lays (tied), the law returns true: one more correction set brings its introductory line and the lines of Insts ahead of the last line, and nothing else. (printed by tellcard.py) -/
import Derived.Test.YtncnnbmeacpboaaGreatDoorO37
import Derived.Test.YtncnnbmeacpboaaGreatDoorO01
import Derived.Test.YtncnnbmeacpboaaGreatDoorLWa15
import Derived.Test.YtncnnbmeacpboaaGreatDoorCards
import Derived.Test.YtncnnbmeacpboaaGreatDoorTie
import Derived.Deep.DeepHandedRow
set_option maxRecDepth 100000
set_option linter.unusedVariables false
set_option linter.unusedSimpArgs false
namespace Go.Proofs.YtncnnbmeacpboaaGreatDoor
open Go.ChangeShapes Go.WideShapes Go.ChangeAt Go.RowKit Go.aa
theorem uk(H:Type)(enc:TypeId×Value->H)(W:World)(base:Nat)(args:Array Value)(ds gs:List (DataW H))(before:List MemPlace)(hval:∀(j:Nat) t v,Tryz.f7.params[j]?=some t->args[j]?=some v->Value.okWide Tryz.prog W .any base t v)(hW:DataW.Whole enc Tryz.prog Tryz.f7.params.toList Rows.tellWhyAppendsSpec.vars false W args.toList ds gs before)(hk:Rows.uptoSmall H (ds++gs)=true)(hL:laidMetH Tryz.prog Rows.tellWhyAppendsUptoRow.laid W)(hS:W.ShapedOpen Tryz.prog):
  Calls Tryz.prog 7 args W fun e W'=>∃v,e=.returned v/\Rows.tellWhyAppendsSpec.post enc Tryz.prog Tryz.f7 false true false false W args v W':=by
 have hW':=hW;obtain⟨p,q,OU,hV,rfl,hfz,hnd⟩:=hW;have r_:DataW.TrodAll enc Tryz.prog W 0 (fun _=>true) true Tryz.f7.params.toList args.toList ds p:=OU;rw[Tryz.params7] at r_ hval;obtain⟨v0,Vt,d0,ds0,p0,q0,hargs,rfl,rfl,h0,r0⟩:=trodAll_cons r_;obtain⟨v1,vs1,d1,ds1,p1,q1,rfl,rfl,rfl,h1,r1⟩:=trodAll_cons r0;obtain⟨v2,vs2,d2,Vh,p2,q2,rfl,rfl,rfl,h2,r2⟩:=trodAll_cons r1;obtain⟨v3,vs3,d3,ds3,p3,q3,rfl,rfl,rfl,h3,r3⟩:=trodAll_cons r2;obtain⟨v4,Vu,d4,Vi,p4,q4,rfl,rfl,rfl,h4,r4⟩:=trodAll_cons r3;obtain⟨rfl,rfl,rfl⟩:=trodAll_nil r4;obtain rfl:args=#[v0,v1,v2,v3,v4]:=by cases args;simp_all
 obtain⟨rfl,rfl⟩:=trodVars_none hV;obtain⟨s0,x0,e0,rfl,g0⟩:=JC (hval 0 _ v0 rfl rfl) h0;obtain⟨l1,x1,e1,rfl,g1⟩:=Dj (hval 1 _ v1 rfl rfl) h1;obtain⟨l2,x2,e2,rfl,g2⟩:=CB (hval 2 _ v2 rfl rfl) h2;obtain⟨i3,y3,e3,rfl,g3,k3⟩:=JK (hval 3 _ v3 rfl rfl) h3;obtain⟨l4,x4,e4,rfl,g4⟩:=FX (hval 4 _ v4 rfl rfl) h4;have hb:=Ah hk;simp only[List.append_nil,D.gI,D.of,D.bulk,bI,e0,e1,e2,e3,e4] at hb;refine(ny s0 x0 l1 x1 l2 x2 i3 y3 l4 x4 W Jj g0 (ax.fit (s:=s0) (by omega)) g1 (by have:=(yK (l:=l1) (by omega)).1;omega) (yK (l:=l1) (by omega)).2.1 g2 (xS (l:=l2) (by omega)).1 (xS (l:=l2) (by omega)).2 g3 k3 (qK (d:=i3) (by omega)).1.1 (qK (d:=i3) (by omega)).2.1 (qK (d:=i3) (by omega)).1.2 (qK (d:=i3) (by omega)).2.2 g4 (by have:=gz (l:=l4);omega) (Nl hS (show laidMetH Tryz.prog F7 W from hL))).mono fun e W' ⟨he,hb'⟩=>?_;subst he;exact⟨_,rfl,F8 laid rfl hW' (by kernel_rfl) rfl Tryz.underlying4 rfl hb'⟩
theorem Aw(os:Os){H:Type}(enc:TypeId×Value->H):∃places,DataW.whole enc Tryz.prog ((uj os).forCall (fun _ _=>0) ⟨#[],#[.agg #[.slice none 0 0,.slice none 0 0,.slice none 0 0,.slice none 0 0,.slice none 0 0],.slice none 0 0,.slice none 0 0,.agg #[.int .i64 0,.slice none 0 0,.slice none 0 0],.slice none 0 0],[]⟩).memory Tryz.f7.params.toList Rows.tellWhyAppendsSpec.vars false (#[.agg #[.slice none 0 0,.slice none 0 0,.slice none 0 0,.slice none 0 0,.slice none 0 0],.slice none 0 0,.slice none 0 0,.agg #[.int .i64 0,.slice none 0 0,.slice none 0 0],.slice none 0 0]:Array Value).toList 8=some ([.agg [.nil,.nil,.nil,.nil,.nil],.nil,.nil,.agg [.lit (.int .i64 0),.nil,.nil],.nil],[],places):=
 ⟨[],by kernel_rfl⟩
theorem yS(os:Os)(started:os.Started)(H:Type)(enc:TypeId×Value->H)(F:Stop.Interp):
  ReturnsInHanded {} Tryz.checked os 7 .any ((Rows.OpenSpec.upto Rows.tellWhyAppendsSpec).preRow enc Tryz.prog Tryz.f7 Rows.tellWhyAppendsUptoRow.domain false Rows.tellWhyAppendsUptoRow.laid) (((Rows.OpenSpec.upto Rows.tellWhyAppendsSpec).at F).post enc Tryz.prog Tryz.f7 false true false false):=by
 obtain⟨places,hx⟩:=Aw os enc;obtain⟨w1,t1,i1,k1,k2,k3,k4,k5,k6,_⟩:=OpenSpec.witness_stopped_atRef (enc:=enc) (C:=Tryz.checked) (fn:=Tryz.f7) (s:=Rows.OpenSpec.upto Rows.tellWhyAppendsSpec) (conds:=Rows.tellWhyAppendsUptoRow.domain) (apart:=false) (laid:=Rows.tellWhyAppendsUptoRow.laid) (f:=7) false (uj os) #[.agg #[.slice none 0 0,.slice none 0 0,.slice none 0 0,.slice none 0 0,.slice none 0 0],.slice none 0 0,.slice none 0 0,.agg #[.int .i64 0,.slice none 0 0,.slice none 0 0],.slice none 0 0] rfl (DJ os _) (DI os _) (by kernel_rfl)
   (OpenSpec.preRow_of_cond 8 hx rfl (fun k hk=>by cases hk;kernel_rfl) (by kernel_rfl) (GR os _)) F
 refine returnsInHanded_of_row (C:=Tryz.checked) (s:=Rows.OpenSpec.upto Rows.tellWhyAppendsSpec) own started (by kernel_rfl) Tryz.func7 ⟨w1,t1,i1,k1,k2,k3,k4,k5,k6⟩ ?_;intro W base args ds gs before hval hW _ hcond _ hL hS _;exact uk H enc W base args ds gs before hval hW (hcond _ rfl) hL hS
theorem GX:(Rows.tellWhyAppendsUptoRow.inPlace==Tryz.prog.inPlace 7)=true:=by kernel_rfl
theorem GY:(Rows.tellWhyAppendsUptoRow.unfollowed==Tryz.prog.unfollowed 7)=true:=by kernel_rfl
theorem GZ:(Rows.tellWhyAppendsUptoRow.recurses==Tryz.prog.recurses 7)=true:=by kernel_rfl
theorem G5:(Rows.tellWhyAppendsUptoRow.named==Tryz.prog.varsNamed 7)=true:=by kernel_rfl
theorem G6:(Rows.tellWhyAppendsUptoRow.lifted==Tryz.prog.liftsFinal)=true:=by kernel_rfl
theorem Av:joinedFacts Tryz.pinned.checked.prog 7 Tryz.f7 (Rows.OpenSpec.upto Rows.tellWhyAppendsSpec).bare Rows.tellWhyAppendsUptoRow=true:=by
 unfold joinedFacts;exact(gy (gy (gy (gy (gy (gy (gy (gy (gy (gy (gy (gy (gy (gy (gy (gy (gy (gy (gy (gy (gy (gy (gy (gy (gy (gy (gy (gy (gy (gy (gy (by kernel_rfl) IC) IE) (by kernel_rfl)) (by kernel_rfl)) (by kernel_rfl)) (by kernel_rfl)) (by kernel_rfl)) (by kernel_rfl)) GX) GY) GZ) G5) (by kernel_rfl)) (by kernel_rfl)) (by kernel_rfl)) (by kernel_rfl)) (by kernel_rfl)) (by kernel_rfl)) (by kernel_rfl)) (by kernel_rfl)) (by kernel_rfl)) (by kernel_rfl)) (by kernel_rfl)) EN) EO) G6) (by kernel_rfl)) (by kernel_rfl)) (by kernel_rfl)) (by kernel_rfl)) (by kernel_rfl))
theorem DT:Rows.TellWhyAppendsUptoSaid:=
 OpenClaim.holds_of_cond 7 Tryz.f7 rfl rfl rfl rfl rfl rfl rfl ⟨rfl,rfl,rfl,rfl,rfl⟩ rfl rfl rfl rfl rfl (by kernel_rfl) Tryz.func7 Av
  (of_decide_eq_true (by kernel_rfl)) (by unfold Func.isWrapper;first|(rw[if_pos (by decide+kernel)];kernel_rfl)|(rw[if_neg (by decide+kernel)];exact⟨rfl,rfl⟩))
  (fun os started H enc _ F=>by rw[OpenClaim.pre_eq_preRow];exact yS os started H enc F)
theorem sN(f:FuncId)(fn:Func)(hf:Tryz.pinned.checked.prog.funcNamed "chalkline/chalklinelaw31.TellWhyAppends" =some f)(hfn:Tryz.pinned.checked.prog.funcs[f]? =some fn):
  false=Tryz.pinned.checked.prog.looks []/\∀(j:Nat) t,fn.params[j]?=some t->Tryz.pinned.checked.prog.wantsStandIn t=false:=by
 obtain rfl:f=7:=Option.some.inj ((show Tryz.prog.funcNamed "chalkline/chalklinelaw31.TellWhyAppends" =some 7 by kernel_rfl).symm.trans hf) |>.symm
 obtain rfl:fn=Tryz.f7:=(Option.some.inj (Tryz.func7.symm.trans hfn)).symm;refine⟨by kernel_rfl,fun j t ht=>?_⟩;rw[Tryz.params7] at ht;have hm:t∈[28,29,38,45,30]:=by simpa using Array.mem_of_getElem? ht
 have hall:([28,29,38,45,30].all fun u=>!Tryz.prog.wantsStandIn u)=true:=by kernel_rfl
 exact(show Tryz.prog.wantsStandIn t=false by simpa using List.all_eq_true.1 hall t hm)
theorem twhy_card:Rows.TellWhyAppendsUptoCardSaid:=
 Claim7.holds_tied_plain_at .later [] _ _ _ _ DT (fun _ h=>by cases h) (by kernel_rfl) (fun _ h=>by cases h) tellWhyAppendsUpto_row_tie rfl ⟨rfl,rfl⟩ (by kernel_rfl) rfl sN (by kernel_rfl)
end Go.Proofs.YtncnnbmeacpboaaGreatDoor
