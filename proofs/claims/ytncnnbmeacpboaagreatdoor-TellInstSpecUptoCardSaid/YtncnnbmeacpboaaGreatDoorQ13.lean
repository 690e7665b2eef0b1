/- Parts of the proof. -/
import Derived.Test.YtncnnbmeacpboaaGreatDoorQ12
import Derived.Deep.RegionHeld3
set_option linter.unusedVariables false
set_option linter.unusedSimpArgs false
namespace Go.aa
open Go.RowKit
variable {P:Program} {ops:Array Oper} {md:Region.Mode}
variable {Q:Exit->Act->World->Prop} {S:World->Prop} {i fuel:Nat} {dst:Option Tmp} {op:Op} {ty:TypeId} {ps:String} {tO:Array Edge} {gd:Option (Nat×Bool)} {v:Value} {listed:Array Bool} {a a':Act} {w:World} {rs:List Nat} {α:Type _}
theorem take_at(hi:ops[i]?=some ⟨dst,op,ty,ps,tO,gd⟩)(hs:Region.noSelect ops=true)(hf:Region.free md ops listed i=true)(hr:(Region.ready md ops listed).contains i=true)(hQ:∀c a w,Q (.panic c) (a.put dst v) w->Q (.panic c) a w)(hw:Region.wanted ⟨dst,op,ty,ps,tO,gd⟩ (yielded ops a.tmps)=true)(hy:∀w,S w->(execOp a.eval ⟨dst,op,ty,ps,tO,gd⟩).run P w=.ok (.value v) w)(hS:S w)(h:wpAnyH P md ops Q S fuel (listed.setIfInBounds i true) (a.put dst v) w):wpAnyH P md ops Q S (fuel+1) listed a w:=
 wpAnyH_take hi hs hf hr hQ (.inl ⟨hw,hy⟩) hS h
theorem uy(hi:ops[i]?=some ⟨dst,op,ty,ps,tO,gd⟩)(hS:S w)(h:wpAnyH P md ops Q S fuel (listed.setIfInBounds i true) a' w)(hs:Region.noSelect ops=true:=by kernel_rfl)(hf:Region.free md ops listed i=true:=by kernel_rfl)(hr:(Region.ready md ops listed).contains i=true:=by kernel_rfl)(hQ:∀c a w,Q (.panic c) (a.put dst v) w->Q (.panic c) a w:=by exact fun _ _ _ h=>h)(hw:Region.wanted ⟨dst,op,ty,ps,tO,gd⟩ (yielded ops a.tmps)=true:=by rfl)(hy:∀w,S w->(execOp a.eval ⟨dst,op,ty,ps,tO,gd⟩).run P w=.ok (.value v) w:=by(intro w hSw;(try dsimp only at hSw);go_simp;all_goals(with_reducible rfl)))(ha:a.put dst v=a':=by((try simp only[Act.put,jZ,j3,j4]);rfl)):
  wpAnyH P md ops Q S (fuel+1) listed a w:=take_at hi hs hf hr hQ hw hy hS (ha▸h)
theorem dJ(ho:ops[i]?=some ⟨dst,op,ty,ps,tO,gd⟩)(h:∀K':Act->World->Prop,Hid (∀a w,S w->(S w->wpAnyH P md ops Q S fuel (listed.setIfInBounds i true) a w)->K' a w)->if Region.wanted ⟨dst,op,ty,ps,tO,gd⟩ (yielded ops a.tmps)=true then Oper.wp P ⟨dst,op,ty,ps,tO,gd⟩ a w K' Q else K' (a.put dst undef) w)(hs:AllReadyH P md ops Q S fuel listed a w rs):AllReadyH P md ops Q S fuel listed a w (i::rs):=AllReadyH.cons ho (fun K' h'=>h K' (Lh h'.out)) hs
end Go.aa
namespace Go.aa
open Go.RowKit
variable {P:Program} {ops:Array Oper} {md:Region.Mode} {Q:Exit->Act->World->Prop} {k:Nat} {S:World->Prop}
variable {Q:Exit->Act->World->Prop} {S:World->Prop} {i fuel:Nat} {dst:Option Tmp} {op:Op} {ty:TypeId} {ps:String} {tO:Array Edge} {gd:Option (Nat×Bool)} {v:Value} {listed:Array Bool} {a a':Act} {w:World} {rs:List Nat} {α:Type _}
def iF(P:Program)(md:Region.Mode)(ops:Array Oper)(Q:Exit->Act->World->Prop)(k:Nat)(S:World->Prop):Nat->Array Bool->Act->World->Prop
 |0,listed,a,w=>Region.ready md ops listed=[]/\Q .normal a w
 |fuel+1,listed,a,w=>
  (Region.ready md ops listed=[]->Q .normal a w)/\
  ∀i∈Region.ready md ops listed,wpOp P ops Q i (fun a' w'=>((listed.setIfInBounds i true).getD k false=false->S w')/\iF P md ops Q k S fuel (listed.setIfInBounds i true) a' w') a w
theorem wP:∀(fuel:Nat) (listed:Array Bool) (a:Act) (w:World),iF P md ops Q k S fuel listed a w->wpAny P md ops Q fuel listed a w
 |0,_,_,_,h=>h
 |fuel+1,_,_,_,h=>⟨h.1,fun i hi=>wpOp_mono (fun a' w' h'=>wP fuel _ a' w' h'.2) (h.2 i hi)⟩
def wM(md:Region.Mode)(ops:Array Oper)(k i:Nat):Bool:=
 match ops[k]? with
 |some o=>o.after.any (fun e=>Region.binds md e&&(e.on==i))
 |none=>true
theorem zT{oi:Oper}{S':World->Prop}{c:Bool}(hi:ops[i]?=some oi)(hsel:∀(j:Nat) (o:Oper) cs b,ops[j]?=some o->o.op≠ .select cs b)(hQ:∀c a w,Q (.panic c) (a.put oi.dst v) w->Q (.panic c) a w)(hik:i≠k)(hwk:c=false->wM md ops k i=true)(hS':∀w,(c=false->S w)->S' w):
  ∀(fuel:Nat) (listed:Array Bool) (a:Act) (w:World),listed.getD k false=c->
   (∀j oj,ops[j]?=some oj->j≠i->listed.getD j true=false->(∀e∈oj.after,Region.binds md e=true->e.on≠i)->oi.apart ops oj=true)->
   i∈Region.ready md ops listed->YieldsIf P ops S' oi v a->(c=false->S w)->
   iF P md ops Q k S fuel (listed.setIfInBounds i true) (a.put oi.dst v) w->iF P md ops Q k S (fuel+1) listed a w:=by
 intro fuel
 induction fuel with
 |zero=>
  intro listed a w hc _ hr hy hS H;refine⟨fun h=>(by rw[h] at hr;cases hr),fun j hj=>?_⟩;by_cases hji:j=i
  ·subst hji;exact hy.wpOp hi (hS' _ hS) ⟨fun h=>hS (by rw[getD_set_ne _ hik,hc] at h;exact h),H⟩
  ·have:=ready_mono hj hji;rw[H.1] at this;cases this
 |succ fuel ih=>
  intro listed a w hc hfree hr hy hS H;refine⟨fun h=>(by rw[h] at hr;cases hr),fun j hj=>?_⟩;by_cases hji:j=i
  ·subst hji;exact hy.wpOp hi (hS' _ hS) ⟨fun h=>hS (by rw[getD_set_ne _ hik,hc] at h;exact h),H⟩
  ·have h1:=H.2 j (ready_mono hj hji);obtain⟨hjun,oj,hoj,hall⟩:=mem_ready.1 hj;have hnot:∀e∈oj.after,Region.binds md e=true->e.on≠i:=fun e he hb heq=>by
    have h1:=hall e he hb;have h0:=(mem_ready.1 hr).1;rw[heq] at h1;rcases Nat.lt_or_ge i listed.size with h'|h'
    ·simp[h'] at h0 h1;rw[h0] at h1;cases h1
    ·simp[Array.getElem?_eq_none h'] at h1
   have hjk:j≠k:=by
    rintro rfl;cases c with
    |false=>
     have h2:=hwk rfl;unfold wM at h2;rw[hoj] at h2;simp only[Array.any_eq_true,Bool.and_eq_true,beq_iff_eq] at h2;obtain⟨q,hq,h3,h4⟩:=h2;exact hnot _ (Array.getElem_mem hq) h3 h4
    |true=>
     rcases Nat.lt_or_ge j listed.size with h'|h'
     ·simp[h'] at hc hjun;rw[hc] at hjun;cases hjun
     ·simp[Array.getElem?_eq_none h'] at hc
   have h2:=wpOp_putIf hoj (hfree j oj hoj hji hjun hnot) (fun cs b=>hsel i oi cs b hi) (fun cs b=>hsel j oj cs b hoj) hQ hy h1;have hfree':∀k ok,ops[k]?=some ok->k≠i->(listed.setIfInBounds j true).getD k true=false->
     (∀e∈ok.after,Region.binds md e=true->e.on≠i)->oi.apart ops ok=true:=fun k ok hk hki hun hno=>by
    refine hfree k ok hk hki ?_ hno;by_cases hjk:j=k
    ·subst hjk;exact hjun
    ·rw[getD_set_ne true hjk] at hun;exact hun
   refine wpOp_mono (fun a' w' h3=>?_) h2;have RG:c=false->S w':=fun hcf=>h3.2.1 (by rw[getD_set_ne _ hjk,getD_set_ne _ hik,hc];exact hcf);refine⟨fun h=>RG (by rw[getD_set_ne _ hjk,hc] at h;exact h),ih (listed.setIfInBounds j true) a' w' (by rw[getD_set_ne _ hjk];exact hc) hfree' (ready_mono hr (Ne.symm hji)) h3.1 RG ?_⟩;rw[Array.setIfInBounds_comm _ _ hji];exact h3.2.2
theorem MG(hi:ops[i]?=some ⟨dst,op,ty,ps,tO,gd⟩)(hs:Region.noSelect ops=true)(hf:Region.free md ops listed i=true)(hr:(Region.ready md ops listed).contains i=true)(hk:((i !=k)&&wM md ops k i&&!(listed.getD k false))=true)(hQ:∀c a w,Q (.panic c) (a.put dst v) w->Q (.panic c) a w)(hw:Region.wanted ⟨dst,op,ty,ps,tO,gd⟩ (yielded ops a.tmps)=true)(hy:∀w,S w->(execOp a.eval ⟨dst,op,ty,ps,tO,gd⟩).run P w=.ok (.value v) w)(hS:S w)(h:iF P md ops Q k S fuel (listed.setIfInBounds i true) (a.put dst v) w):iF P md ops Q k S (fuel+1) listed a w:=by
 simp only[Bool.and_eq_true,bne_iff_ne,Bool.not_eq_true'] at hk;exact zT (c:=false) (S':=S) hi (Region.noSelect_spec hs) hQ hk.1.1 (fun _=>hk.1.2) (fun w h=>h rfl) fuel listed a w hk.2 (Region.free_spec hi hf) (by simpa using hr) (.inl ⟨hw,hy⟩) (fun _=>hS) h
theorem jZ(l:List α)(i:Nat)(x:α):l.toArray.setIfInBounds i x=(l.set i x).toArray:=List.setIfInBounds_toArray ..
theorem j3(x y:α)(l:List α):(x::l).set 0 y=y::l:=rfl
theorem j4(x y:α)(l:List α)(i:Nat):(x::l).set (i+1) y=x::l.set i y:=rfl
theorem CL(hi:ops[i]?=some ⟨dst,op,ty,ps,tO,gd⟩)(hS:S w)(h:iF P md ops Q k S fuel (listed.setIfInBounds i true) a' w)(hs:Region.noSelect ops=true:=by kernel_rfl)(hf:Region.free md ops listed i=true:=by kernel_rfl)(hr:(Region.ready md ops listed).contains i=true:=by kernel_rfl)(hk:((i !=k)&&wM md ops k i&&!(listed.getD k false))=true:=by kernel_rfl)(hQ:∀c a w,Q (.panic c) (a.put dst v) w->Q (.panic c) a w:=by exact fun _ _ _ h=>h)(hw:Region.wanted ⟨dst,op,ty,ps,tO,gd⟩ (yielded ops a.tmps)=true:=by rfl)(hy:∀w,S w->(execOp a.eval ⟨dst,op,ty,ps,tO,gd⟩).run P w=.ok (.value v) w:=by(intro w hSw;(try dsimp only at hSw);go_simp;all_goals(with_reducible rfl)))(ha:a.put dst v=a':=by((try simp only[Act.put,jZ,j3,j4]);rfl)):
  iF P md ops Q k S (fuel+1) listed a w:=MG hi hs hf hr hk hQ hw hy hS (ha▸h)
theorem aV{F:World->Prop}(hi:ops[i]?=some ⟨dst,op,ty,ps,tO,gd⟩)(hS:S w)(hF:Hid (∀w,S w->F w))(h:iF P md ops Q k S fuel (listed.setIfInBounds i true) a' w)(hs:Region.noSelect ops=true:=by kernel_rfl)(hf:Region.free md ops listed i=true:=by kernel_rfl)(hr:(Region.ready md ops listed).contains i=true:=by kernel_rfl)(hk:((i !=k)&&wM md ops k i&&!(listed.getD k false))=true:=by kernel_rfl)(hQ:∀c a w,Q (.panic c) (a.put dst v) w->Q (.panic c) a w:=by exact fun _ _ _ h=>h)(hw:Region.wanted ⟨dst,op,ty,ps,tO,gd⟩ (yielded ops a.tmps)=true:=by rfl)(hy:∀w,S w->F w->(execOp a.eval ⟨dst,op,ty,ps,tO,gd⟩).run P w=.ok (.value v) w:=by(intro w hSw hFw;repeat(cases ‹_/\_›);go_simp;all_goals(with_reducible rfl)))(ha:a.put dst v=a':=by((try simp only[Act.put,jZ,j3,j4]);rfl)):
  iF P md ops Q k S (fuel+1) listed a w:=MG hi hs hf hr hk hQ hw (fun w h=>hy w h (hF.out w h)) hS (ha▸h)
def kG(P:Program)(md:Region.Mode)(ops:Array Oper)(Q:Exit->Act->World->Prop)(k:Nat)(S:World->Prop)(fuel:Nat)(listed:Array Bool)(a:Act)(w:World)(rs:List Nat):Prop:=
 ∀i∈rs,wpOp P ops Q i (fun a' w'=>((listed.setIfInBounds i true).getD k false=false->S w')/\iF P md ops Q k S fuel (listed.setIfInBounds i true) a' w') a w
theorem aS:kG P md ops Q k S fuel listed a w []:=fun _ h=>by cases h
theorem aY(ho:ops[i]?=some ⟨dst,op,ty,ps,tO,gd⟩)(h:∀K':Act->World->Prop,Shut (∀a w,S w->(S w->iF P md ops Q k S fuel (listed.setIfInBounds i true) a w)->K' a w)->if Region.wanted ⟨dst,op,ty,ps,tO,gd⟩ (yielded ops a.tmps)=true then Oper.wp P ⟨dst,op,ty,ps,tO,gd⟩ a w K' Q else K' (a.put dst undef) w)(hs:kG P md ops Q k S fuel listed a w rs):kG P md ops Q k S fuel listed a w (i::rs):=fun j hj=>by
 rcases List.mem_cons.1 hj with rfl|hj
 ·exact wpOp_step ho (fun K' hK=>h K' (fun a w hS hW=>hK a w ⟨fun _=>hS,hW hS⟩))
 ·exact hs j hj
theorem eG(ho:ops[i]?=some ⟨dst,op,ty,ps,tO,gd⟩)(hl:(listed.setIfInBounds i true).getD k false=true)(h:∀K':Act->World->Prop,Shut (∀a w,iF P md ops Q k S fuel (listed.setIfInBounds i true) a w->K' a w)->if Region.wanted ⟨dst,op,ty,ps,tO,gd⟩ (yielded ops a.tmps)=true then Oper.wp P ⟨dst,op,ty,ps,tO,gd⟩ a w K' Q else K' (a.put dst undef) w)(hs:kG P md ops Q k S fuel listed a w rs):kG P md ops Q k S fuel listed a w (i::rs):=fun j hj=>by
 rcases List.mem_cons.1 hj with rfl|hj
 ·exact wpOp_step ho (fun K' hK=>h K' (fun a w hW=>hK a w ⟨fun h=>(by rw[hl] at h;cases h),hW⟩))
 ·exact hs j hj
theorem az(hr:Region.ready md ops listed=rs)(hne:rs≠[])(h:kG P md ops Q k S fuel listed a w rs):iF P md ops Q k S (fuel+1) listed a w:=⟨fun h0=>absurd (hr▸h0) hne,hr▸h⟩
theorem eT(hr:Region.ready md ops listed=[])(h:Q .normal a w):∀fuel,iF P md ops Q k S fuel listed a w
 |0=>⟨hr,h⟩
 |_+1=>⟨fun _=>h,by rw[hr];simp⟩
theorem bB(k:Nat){id:Nat}{S:World->Prop}{Q:Exit->Act->World->Prop}{a:Act}{w:World}(hm:P.follows .mixedOrders=true)(hS:S w.drew)(h:S w.drew->iF P .any ops Q k S ops.size (Array.replicate ops.size false) a w.drew):(Code.region id ops true).wp P Q a w:=wp_region_any hm (wP _ _ _ _ (h hS))
end Go.aa
