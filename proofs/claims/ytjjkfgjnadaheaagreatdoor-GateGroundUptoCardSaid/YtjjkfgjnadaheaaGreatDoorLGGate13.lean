/- Joined texts: IterH, IterQ, AnyU. -/
import Derived.Test.YtjjkfgjnadaheaaGreatDoorG10
import Derived.Deep.RegionHeld3
import Derived.OrdersIn
import Derived.Test.YtjjkfgjnadaheaaGreatDoorLGGate9
set_option linter.unusedVariables false
set_option linter.unusedSimpArgs false
/- A region that draws its order, within a round of a range over a function, with a condition held. -/
namespace Go.Chalk
open Go.RowKit
variable {P:Program} {ops:Array Oper} {md:Region.Mode}
def Plain (Q:Exit->Act->World->Prop) (e:Exit) (a:Act) (w:World):Prop:=e=.normal/\Q e a w
theorem not_letsOut_plain {Q:Exit->Act->World->Prop}:¬ LetsOut (Plain Q):=by
 rintro ⟨a,w,h⟩;cases h.1
theorem oper_round {l:Nat} {o:Oper} {Q:Exit->Act->World->Prop} {K:Act->World->Prop} {a:Act} {w:World} (hd:∀ c,o.op ≠ .defer c) (h:o.wp P a w K Q):o.wpIn (Fence.wide.inRound l) 0 P a w K Q:=by
 refine ⟨fun _ _=>trivial,?_⟩
 rw [Oper.semAt_eq _ _ _ hd]
 unfold Oper.wp at h
 generalize (execOp a.eval o).run P w=r at h ⊢
 cases r with
 | ok x w' =>
  cases x with
  | value v=>exact h
  | skip=>exact h
  | defer d=>exact h
  | enter f args=>exact ⟨(fun h=>by cases h),CallsIn.inRound l (callsIn_wide.2 h)⟩
  | row row args=>exact ⟨(fun h=>by cases h),fun c cs _=>let ⟨v,w',r,s⟩:=h c cs;⟨v,w',r,stepsIn_wide.2 s⟩⟩
  | _=>exact h.elim
 | halt x w'=>cases x <;> exact h
theorem wpOp_round {l i:Nat} {Q:Exit->Act->World->Prop} {K:Act->World->Prop} {a:Act} {w:World} (hd:∀ o,ops[i]?=some o->∀ c,o.op ≠ .defer c) (h:wpOp P ops (Plain Q) i K a w):wpOpIn (Fence.wide.inRound l) 0 P ops (Plain Q) i K a w:=by
 unfold wpOp at h
 unfold wpOpIn
 cases ho:ops[i]? with
 | none=>rw [ho] at h;exact h
 | some o =>
  rw [ho] at h
  simp only at h ⊢
  by_cases hw:Region.wanted o (yielded ops a.tmps)=true
  ·rw [if_pos hw] at h ⊢
   rcases h with h | h
   ·exact oper_round (hd o ho) h
   ·exact absurd h.2 not_letsOut_plain
  ·rw [if_neg hw] at h ⊢
   exact ⟨fun _ _=>trivial,h⟩
theorem wpAny_round {l:Nat} {Q:Exit->Act->World->Prop} (hd:∀ (i:Nat) (o:Oper),ops[i]?=some o->∀ c,o.op ≠ .defer c):∀ (fuel:Nat) (listed:Array Bool) (a:Act) (w:World),wpAny P md ops (Plain Q) fuel listed a w->wpAnyIn (Fence.wide.inRound l) 0 P md ops (Plain Q) fuel listed a w
 | 0,_,_,_,h=>h
 | fuel+1,_,_,_,h=>⟨h.1,fun i hi=>wpOpIn_mono (fun _ _=>wpAny_round hd fuel _ _ _) (wpOp_round (hd i) (h.2 i hi))⟩
def isDefer:Op->Bool
 | .defer _=>true
 | _=>false
theorem wpIn_round_held {l id:Nat} {S:World->Prop} {Q:Exit->Act->World->Prop} {a:Act} {w:World} (hm:P.follows .mixedOrders=true) (hd:ops.all (fun o=>!(isDefer o.op))=true) (hS:S w.drew)
  (h:S w.drew->wpAnyH P .any ops (Plain Q) S ops.size (Array.replicate ops.size false) a w.drew):(Code.region id ops true).wpIn (Fence.wide.inRound l) 0 P Q a w:=by
 refine wpIn_mono (Q:=Plain Q) (wpIn_region_any hm (wpAny_round (fun i o ho c hc=>?_) _ _ _ _ (wpAny_of_held _ _ _ _ (h hS)))) (fun _ _ _ h=>h.2)
 obtain ⟨hi,he⟩:=gS ho
 have:=Array.all_eq_true.1 hd i hi
 rw [he,hc] at this
 cases this
theorem plain_put {Q:Exit->Act->World->Prop} {d:Option Tmp} {v:Value}:∀ c (a:Act) (w:World),Plain Q (.panic c) (a.put d v) w->Plain Q (.panic c) a w:=fun _ _ _ h=>by cases h.1
theorem take_at {Q:Exit->Act->World->Prop} {S:World->Prop} {i:Nat} {dst:Option Tmp} {op:Op} {ty:TypeId} {ps:String} {aft:Array Edge} {gd:Option (Nat×Bool)} {v:Value} {fuel:Nat} {listed:Array Bool} {a:Act} {w:World} (hi:ops[i]?=some ⟨dst,op,ty,ps,aft,gd⟩)
  (hs:Region.noSelect ops=true) (hf:Region.free md ops listed i=true) (hr:(Region.ready md ops listed).contains i=true)
  (hQ:∀ c a w,Q (.panic c) (a.put dst v) w->Q (.panic c) a w) (hw:Region.wanted ⟨dst,op,ty,ps,aft,gd⟩ (yielded ops a.tmps)=true) (hy:∀ w,S w->(execOp a.eval ⟨dst,op,ty,ps,aft,gd⟩).run P w=.ok (.value v) w) (hS:S w)
  (h:wpAnyH P md ops Q S fuel (listed.setIfInBounds i true) (a.put dst v) w):wpAnyH P md ops Q S (fuel+1) listed a w :=
 wpAnyH_take hi hs hf hr hQ (.inl ⟨hw,hy⟩) hS h
theorem tkA {Q:Exit->Act->World->Prop} {S:World->Prop} {i:Nat} {dst:Option Tmp} {op:Op} {ty:TypeId} {ps:String} {aft:Array Edge} {gd:Option (Nat×Bool)} {v:Value} {fuel:Nat} {listed:Array Bool} {a:Act} {w:World} (hi:ops[i]?=some ⟨dst,op,ty,ps,aft,gd⟩) (hS:S w)
  (h:wpAnyH P md ops Q S fuel (listed.setIfInBounds i true) (a.put dst v) w)
  (hs:Region.noSelect ops=true:=by kernel_rfl) (hf:Region.free md ops listed i=true:=by kernel_rfl) (hr:(Region.ready md ops listed).contains i=true:=by kernel_rfl)
  (hQ:∀ c a w,Q (.panic c) (a.put dst v) w->Q (.panic c) a w:=by exact fun _ _ _ h=>h) (hw:Region.wanted ⟨dst,op,ty,ps,aft,gd⟩ (yielded ops a.tmps)=true:=by rfl) (hy:∀ w,S w->(execOp a.eval ⟨dst,op,ty,ps,aft,gd⟩).run P w=.ok (.value v) w:=by (intro w hSw;(try dsimp only at hSw);go_simp;all_goals (with_reducible rfl))) :
  wpAnyH P md ops Q S (fuel+1) listed a w:=take_at hi hs hf hr hQ hw hy hS h
theorem cons_at {Q:Exit->Act->World->Prop} {S:World->Prop} {fuel:Nat} {listed:Array Bool} {a:Act} {w:World} {i:Nat} {dst:Option Tmp} {op:Op} {ty:TypeId} {ps:String} {aft:Array Edge} {gd:Option (Nat×Bool)} {rs:List Nat} (ho:ops[i]?=some ⟨dst,op,ty,ps,aft,gd⟩)
  (h:∀ K':Act->World->Prop,Hid (∀ a w,S w->(S w->wpAnyH P md ops Q S fuel (listed.setIfInBounds i true) a w)->K' a w)->if Region.wanted ⟨dst,op,ty,ps,aft,gd⟩ (yielded ops a.tmps)=true then Oper.wp P ⟨dst,op,ty,ps,aft,gd⟩ a w K' Q else K' (a.put dst undef) w)
  (hs:AllReadyH P md ops Q S fuel listed a w rs):AllReadyH P md ops Q S fuel listed a w (i :: rs):=AllReadyH.cons ho (fun K' h'=>h K' (Lh h'.out)) hs
end Go.Chalk
/- A region that draws its order, within a round of a range over a function, with a condition held: calls may panic. -/
namespace Go.Chalk
open Go.RowKit
variable {P:Program} {ops:Array Oper} {md:Region.Mode}
def Tame (Q:Exit->Act->World->Prop) (e:Exit) (a:Act) (w:World):Prop:=e ≠ .outgrown/\Q e a w
theorem not_letsOut_tame {Q:Exit->Act->World->Prop}:¬ LetsOut (Tame Q):=by
 rintro ⟨a,w,h⟩;exact h.1 rfl
theorem wpOp_roundT {l i:Nat} {Q:Exit->Act->World->Prop} {K:Act->World->Prop} {a:Act} {w:World} (hd:∀ o,ops[i]?=some o->∀ c,o.op ≠ .defer c) (h:wpOp P ops (Tame Q) i K a w):wpOpIn (Fence.wide.inRound l) 0 P ops (Tame Q) i K a w:=by
 unfold wpOp at h
 unfold wpOpIn
 cases ho:ops[i]? with
 | none=>rw [ho] at h;exact h
 | some o =>
  rw [ho] at h
  simp only at h ⊢
  by_cases hw:Region.wanted o (yielded ops a.tmps)=true
  ·rw [if_pos hw] at h ⊢
   rcases h with h | h
   ·exact oper_round (hd o ho) h
   ·exact absurd h.2 not_letsOut_tame
  ·rw [if_neg hw] at h ⊢
   exact ⟨fun _ _=>trivial,h⟩
theorem wpAny_roundT {l:Nat} {Q:Exit->Act->World->Prop} (hd:∀ (i:Nat) (o:Oper),ops[i]?=some o->∀ c,o.op ≠ .defer c):∀ (fuel:Nat) (listed:Array Bool) (a:Act) (w:World),wpAny P md ops (Tame Q) fuel listed a w->wpAnyIn (Fence.wide.inRound l) 0 P md ops (Tame Q) fuel listed a w
 | 0,_,_,_,h=>h
 | fuel+1,_,_,_,h=>⟨h.1,fun i hi=>wpOpIn_mono (fun _ _=>wpAny_roundT hd fuel _ _ _) (wpOp_roundT (hd i) (h.2 i hi))⟩
theorem tame_put {I:Nat->(Nat->Prop)->World->Prop} {Ix:Code->Nat->(Nat->Prop)->World->Prop} {Ip:List PanicEntry->(Nat->Prop)->World->Prop} {T:Nat->Prop} {W:World} {i:Nat} {d:Option Tmp} {v:Value}:∀ c (a:Act) (w:World),Tame (BodyPostP I Ix Ip T W i) (.panic c) (a.put d v) w->Tame (BodyPostP I Ix Ip T W i) (.panic c) a w:=by
 rintro c a w ⟨h1,h2,h3⟩
 refine ⟨h1,?_,h3⟩
 cases d <;> exact h2
end Go.Chalk
/- A region that draws its order, with a condition that is held until operation k has come up. No program is named here. -/
namespace Go.Chalk
open Go.RowKit
variable {P:Program} {ops:Array Oper} {md:Region.Mode} {Q:Exit->Act->World->Prop} {k:Nat} {S:World->Prop}
def wpAnyU (P:Program) (md:Region.Mode) (ops:Array Oper) (Q:Exit->Act->World->Prop) (k:Nat) (S:World->Prop):Nat->Array Bool->Act->World->Prop
 | 0,listed,a,w=>Region.ready md ops listed=[]/\Q .normal a w
 | fuel+1,listed,a,w =>
  (Region.ready md ops listed=[]->Q .normal a w) /\
  ∀ i∈Region.ready md ops listed,wpOp P ops Q i (fun a' w'=>((listed.setIfInBounds i true).getD k false=false->S w')/\wpAnyU P md ops Q k S fuel (listed.setIfInBounds i true) a' w') a w
theorem wpAny_of_U:∀ (fuel:Nat) (listed:Array Bool) (a:Act) (w:World),wpAnyU P md ops Q k S fuel listed a w->wpAny P md ops Q fuel listed a w
 | 0,_,_,_,h=>h
 | fuel+1,_,_,_,h=>⟨h.1,fun i hi=>wpOp_mono (fun a' w' h'=>wpAny_of_U fuel _ a' w' h'.2) (h.2 i hi)⟩
def waitsB (md:Region.Mode) (ops:Array Oper) (k i:Nat):Bool :=
 match ops[k]? with
 | some o=>o.after.any (fun e=>Region.binds md e&&(e.on==i))
 | none=>true
theorem wpAnyU_first {i:Nat} {oi:Oper} {v:Value} {S':World->Prop} {c:Bool} (hi:ops[i]?=some oi) (hsel:∀ (j:Nat) (o:Oper) cs b,ops[j]?=some o->o.op ≠ .select cs b)
  (hQ:∀ c a w,Q (.panic c) (a.put oi.dst v) w->Q (.panic c) a w) (hik:i ≠ k) (hwk:c=false->waitsB md ops k i=true) (hS':∀ w,(c=false->S w)->S' w) :
  ∀ (fuel:Nat) (listed:Array Bool) (a:Act) (w:World),listed.getD k false=c ->
   (∀ j oj,ops[j]?=some oj->j ≠ i->listed.getD j true=false->(∀ e∈oj.after,Region.binds md e=true->e.on ≠ i)->oi.apart ops oj=true) ->
   i∈Region.ready md ops listed->YieldsIf P ops S' oi v a->(c=false->S w) ->
   wpAnyU P md ops Q k S fuel (listed.setIfInBounds i true) (a.put oi.dst v) w->wpAnyU P md ops Q k S (fuel+1) listed a w:=by
 intro fuel
 induction fuel with
 | zero =>
  intro listed a w hc _ hr hy hS H
  refine ⟨fun h=>(by rw [h] at hr;cases hr),fun j hj=>?_⟩
  by_cases hji:j=i
  ·subst hji;exact hy.wpOp hi (hS' _ hS) ⟨fun h=>hS (by rw [getD_set_ne _ hik,hc] at h;exact h),H⟩
  ·have:=ready_mono hj hji
   rw [H.1] at this
   cases this
 | succ fuel ih =>
  intro listed a w hc hfree hr hy hS H
  refine ⟨fun h=>(by rw [h] at hr;cases hr),fun j hj=>?_⟩
  by_cases hji:j=i
  ·subst hji;exact hy.wpOp hi (hS' _ hS) ⟨fun h=>hS (by rw [getD_set_ne _ hik,hc] at h;exact h),H⟩
  ·have h1:=H.2 j (ready_mono hj hji)
   obtain ⟨hjun,oj,hoj,hall⟩:=mem_ready.1 hj
   have hnot:∀ e∈oj.after,Region.binds md e=true->e.on ≠ i:=fun e he hb heq=>by
    have h1:=hall e he hb
    have h0:=(mem_ready.1 hr).1
    rw [heq] at h1
    rcases Nat.lt_or_ge i listed.size with h' | h'
    ·simp [h'] at h0 h1;rw [h0] at h1;cases h1
    ·simp [Array.getElem?_eq_none h'] at h1
   have hjk:j ≠ k:=by
    rintro rfl
    cases c with
    | false =>
     have h2:=hwk rfl
     unfold waitsB at h2
     rw [hoj] at h2
     simp only [Array.any_eq_true,Bool.and_eq_true,beq_iff_eq] at h2
     obtain ⟨q,hq,h3,h4⟩:=h2
     exact hnot _ (Array.getElem_mem hq) h3 h4
    | true =>
     rcases Nat.lt_or_ge j listed.size with h' | h'
     ·simp [h'] at hc hjun;rw [hc] at hjun;cases hjun
     ·simp [Array.getElem?_eq_none h'] at hc
   have h2:=wpOp_putIf hoj (hfree j oj hoj hji hjun hnot) (fun cs b=>hsel i oi cs b hi) (fun cs b=>hsel j oj cs b hoj) hQ hy h1
   have hfree':∀ k ok,ops[k]?=some ok->k ≠ i->(listed.setIfInBounds j true).getD k true=false ->
     (∀ e∈ok.after,Region.binds md e=true->e.on ≠ i)->oi.apart ops ok=true:=fun k ok hk hki hun hno=>by
    refine hfree k ok hk hki ?_ hno
    by_cases hjk:j=k
    ·subst hjk;exact hjun
    ·rw [getD_set_ne true hjk] at hun;exact hun
   refine wpOp_mono (fun a' w' h3=>?_) h2
   have hS3:c=false->S w':=fun hcf=>h3.2.1 (by rw [getD_set_ne _ hjk,getD_set_ne _ hik,hc];exact hcf)
   refine ⟨fun h=>hS3 (by rw [getD_set_ne _ hjk,hc] at h;exact h),ih (listed.setIfInBounds j true) a' w' (by rw [getD_set_ne _ hjk];exact hc) hfree' (ready_mono hr (Ne.symm hji)) h3.1 hS3 ?_⟩
   rw [Array.setIfInBounds_comm _ _ hji]
   exact h3.2.2
theorem take_U {i:Nat} {dst:Option Tmp} {op:Op} {ty:TypeId} {ps:String} {aft:Array Edge} {gd:Option (Nat×Bool)} {v:Value} {fuel:Nat} {listed:Array Bool} {a:Act} {w:World} (hi:ops[i]?=some ⟨dst,op,ty,ps,aft,gd⟩)
  (hs:Region.noSelect ops=true) (hf:Region.free md ops listed i=true) (hr:(Region.ready md ops listed).contains i=true) (hk:((i != k)&&waitsB md ops k i&&!(listed.getD k false))=true)
  (hQ:∀ c a w,Q (.panic c) (a.put dst v) w->Q (.panic c) a w) (hw:Region.wanted ⟨dst,op,ty,ps,aft,gd⟩ (yielded ops a.tmps)=true) (hy:∀ w,S w->(execOp a.eval ⟨dst,op,ty,ps,aft,gd⟩).run P w=.ok (.value v) w) (hS:S w)
  (h:wpAnyU P md ops Q k S fuel (listed.setIfInBounds i true) (a.put dst v) w):wpAnyU P md ops Q k S (fuel+1) listed a w:=by
 simp only [Bool.and_eq_true,bne_iff_ne,Bool.not_eq_true'] at hk
 exact wpAnyU_first (c:=false) (S':=S) hi (Region.noSelect_spec hs) hQ hk.1.1 (fun _=>hk.1.2) (fun w h=>h rfl) fuel listed a w hk.2 (Region.free_spec hi hf) (by simpa using hr) (.inl ⟨hw,hy⟩) (fun _=>hS) h
theorem take_V {i:Nat} {dst:Option Tmp} {op:Op} {ty:TypeId} {ps:String} {aft:Array Edge} {gd:Option (Nat×Bool)} {v:Value} {fuel:Nat} {listed:Array Bool} {a:Act} {w:World} (hi:ops[i]?=some ⟨dst,op,ty,ps,aft,gd⟩)
  (hs:Region.noSelect ops=true) (hf:Region.free md ops listed i=true) (hr:(Region.ready md ops listed).contains i=true) (hk:((i != k)&&listed.getD k false)=true)
  (hQ:∀ c a w,Q (.panic c) (a.put dst v) w->Q (.panic c) a w) (hw:Region.wanted ⟨dst,op,ty,ps,aft,gd⟩ (yielded ops a.tmps)=true) (hy:∀ w,(execOp a.eval ⟨dst,op,ty,ps,aft,gd⟩).run P w=.ok (.value v) w)
  (h:wpAnyU P md ops Q k S fuel (listed.setIfInBounds i true) (a.put dst v) w):wpAnyU P md ops Q k S (fuel+1) listed a w:=by
 simp only [Bool.and_eq_true,bne_iff_ne] at hk
 exact wpAnyU_first (c:=true) (S':=fun _=>True) hi (Region.noSelect_spec hs) hQ hk.1 (fun h=>by cases h) (fun _ _=>trivial) fuel listed a w hk.2 (Region.free_spec hi hf) (by simpa using hr) (.inl ⟨hw,fun w _=>hy w⟩) (fun h=>by cases h) h
theorem ub1 {α:Type _} (l:List α) (i:Nat) (x:α):l.toArray.setIfInBounds i x=(l.set i x).toArray:=List.setIfInBounds_toArray ..
theorem ub2 {α:Type _} (x y:α) (l:List α):(x :: l).set 0 y=y :: l:=rfl
theorem ub3 {α:Type _} (x y:α) (l:List α) (i:Nat):(x :: l).set (i+1) y=x :: l.set i y:=rfl
theorem tkU {i:Nat} {dst:Option Tmp} {op:Op} {ty:TypeId} {ps:String} {aft:Array Edge} {gd:Option (Nat×Bool)} {v:Value} {fuel:Nat} {listed:Array Bool} {a:Act} {w:World} (hi:ops[i]?=some ⟨dst,op,ty,ps,aft,gd⟩) (hS:S w)
  (h:wpAnyU P md ops Q k S fuel (listed.setIfInBounds i true) (a.put dst v) w)
  (hs:Region.noSelect ops=true:=by kernel_rfl) (hf:Region.free md ops listed i=true:=by kernel_rfl) (hr:(Region.ready md ops listed).contains i=true:=by kernel_rfl) (hk:((i != k)&&waitsB md ops k i&&!(listed.getD k false))=true:=by kernel_rfl)
  (hQ:∀ c a w,Q (.panic c) (a.put dst v) w->Q (.panic c) a w:=by exact fun _ _ _ h=>h) (hw:Region.wanted ⟨dst,op,ty,ps,aft,gd⟩ (yielded ops a.tmps)=true:=by rfl) (hy:∀ w,S w->(execOp a.eval ⟨dst,op,ty,ps,aft,gd⟩).run P w=.ok (.value v) w:=by (intro w hSw;(try dsimp only at hSw);go_simp;all_goals (with_reducible rfl))) :
  wpAnyU P md ops Q k S (fuel+1) listed a w:=take_U hi hs hf hr hk hQ hw hy hS h
def AllReadyU (P:Program) (md:Region.Mode) (ops:Array Oper) (Q:Exit->Act->World->Prop) (k:Nat) (S:World->Prop) (fuel:Nat) (listed:Array Bool) (a:Act) (w:World) (rs:List Nat):Prop :=
 ∀ i∈rs,wpOp P ops Q i (fun a' w'=>((listed.setIfInBounds i true).getD k false=false->S w')/\wpAnyU P md ops Q k S fuel (listed.setIfInBounds i true) a' w') a w
theorem nil_U {fuel:Nat} {listed:Array Bool} {a:Act} {w:World}:AllReadyU P md ops Q k S fuel listed a w []:=fun _ h=>by cases h
theorem cons_U {fuel:Nat} {listed:Array Bool} {a:Act} {w:World} {i:Nat} {dst:Option Tmp} {op:Op} {ty:TypeId} {ps:String} {aft:Array Edge} {gd:Option (Nat×Bool)} {rs:List Nat} (ho:ops[i]?=some ⟨dst,op,ty,ps,aft,gd⟩)
  (h:∀ K':Act->World->Prop,Shut (∀ a w,S w->(S w->wpAnyU P md ops Q k S fuel (listed.setIfInBounds i true) a w)->K' a w)->if Region.wanted ⟨dst,op,ty,ps,aft,gd⟩ (yielded ops a.tmps)=true then Oper.wp P ⟨dst,op,ty,ps,aft,gd⟩ a w K' Q else K' (a.put dst undef) w)
  (hs:AllReadyU P md ops Q k S fuel listed a w rs):AllReadyU P md ops Q k S fuel listed a w (i :: rs):=fun j hj=>by
 rcases List.mem_cons.1 hj with rfl | hj
 ·exact wpOp_step ho (fun K' hK=>h K' (fun a w hS hW=>hK a w ⟨fun _=>hS,hW hS⟩))
 ·exact hs j hj
theorem cons_V {fuel:Nat} {listed:Array Bool} {a:Act} {w:World} {i:Nat} {dst:Option Tmp} {op:Op} {ty:TypeId} {ps:String} {aft:Array Edge} {gd:Option (Nat×Bool)} {rs:List Nat} (ho:ops[i]?=some ⟨dst,op,ty,ps,aft,gd⟩) (hl:(listed.setIfInBounds i true).getD k false=true)
  (h:∀ K':Act->World->Prop,Shut (∀ a w,wpAnyU P md ops Q k S fuel (listed.setIfInBounds i true) a w->K' a w)->if Region.wanted ⟨dst,op,ty,ps,aft,gd⟩ (yielded ops a.tmps)=true then Oper.wp P ⟨dst,op,ty,ps,aft,gd⟩ a w K' Q else K' (a.put dst undef) w)
  (hs:AllReadyU P md ops Q k S fuel listed a w rs):AllReadyU P md ops Q k S fuel listed a w (i :: rs):=fun j hj=>by
 rcases List.mem_cons.1 hj with rfl | hj
 ·exact wpOp_step ho (fun K' hK=>h K' (fun a w hW=>hK a w ⟨fun h=>(by rw [hl] at h;cases h),hW⟩))
 ·exact hs j hj
theorem ready_U {rs:List Nat} {fuel:Nat} {listed:Array Bool} {a:Act} {w:World} (hr:Region.ready md ops listed=rs) (hne:rs ≠ [])
  (h:AllReadyU P md ops Q k S fuel listed a w rs):wpAnyU P md ops Q k S (fuel+1) listed a w:=⟨fun h0=>absurd (hr ▸ h0) hne,hr ▸ h⟩
theorem done_U {listed:Array Bool} {a:Act} {w:World} (hr:Region.ready md ops listed=[]) (h:Q .normal a w):∀ fuel,wpAnyU P md ops Q k S fuel listed a w
 | 0=>⟨hr,h⟩
 | _+1=>⟨fun _=>h,by rw [hr];simp⟩
theorem wpIn_round_U (k:Nat) {l id:Nat} {S:World->Prop} {Q:Exit->Act->World->Prop} {a:Act} {w:World} (hm:P.follows .mixedOrders=true) (hd:ops.all (fun o=>!(isDefer o.op))=true) (hS:S w.drew)
  (h:S w.drew->wpAnyU P .any ops (Tame Q) k S ops.size (Array.replicate ops.size false) a w.drew):(Code.region id ops true).wpIn (Fence.wide.inRound l) 0 P Q a w:=by
 refine wpIn_mono (Q:=Tame Q) (wpIn_region_any hm (wpAny_roundT (fun i o ho c hc=>?_) _ _ _ _ (wpAny_of_U _ _ _ _ (h hS)))) (fun _ _ _ h=>h.2)
 obtain ⟨hi,he⟩:=gS ho
 have:=Array.all_eq_true.1 hd i hi
 rw [he,hc] at this
 cases this
theorem wp_region_U (k:Nat) {id:Nat} {S:World->Prop} {Q:Exit->Act->World->Prop} {a:Act} {w:World} (hm:P.follows .mixedOrders=true) (hS:S w.drew)
  (h:S w.drew->wpAnyU P .any ops Q k S ops.size (Array.replicate ops.size false) a w.drew):(Code.region id ops true).wp P Q a w:=wp_region_any hm (wpAny_of_U _ _ _ _ (h hS))
theorem tame_putB {I:Nat->(Nat->Prop)->World->Prop} {Ix:Code->Nat->(Nat->Prop)->World->Prop} {Ip:List PanicEntry->(Nat->Prop)->World->Prop} {T:Nat->Prop} {W:World} {i b:Nat} {d:Option Tmp} {v:Value}:∀ c (a:Act) (w:World),Tame (Exit.inBlock b (BodyPostP I Ix Ip T W i)) (.panic c) (a.put d v) w->Tame (Exit.inBlock b (BodyPostP I Ix Ip T W i)) (.panic c) a w:=fun c a w h=>tame_put (I:=I) (Ix:=Ix) (Ip:=Ip) (T:=T) (W:=W) (i:=i) c a w h
theorem tame_panicB {I:Nat->(Nat->Prop)->World->Prop} {Ix:Code->Nat->(Nat->Prop)->World->Prop} {Ip:List PanicEntry->(Nat->Prop)->World->Prop} {T:Nat->Prop} {W W':World} {i b:Nat} {c:List PanicEntry} {a:Act} (hd:a.defers=[]) (h:∃ T',Ext T T' W W'/\Mod T W W'/\Ip c T' W'):Tame (Exit.inBlock b (BodyPostP I Ix Ip T W i)) (.panic c) a W':=⟨(fun h=>by cases h),hd,h⟩
theorem tame_normalB {I:Nat->(Nat->Prop)->World->Prop} {Ix:Code->Nat->(Nat->Prop)->World->Prop} {Ip:List PanicEntry->(Nat->Prop)->World->Prop} {T:Nat->Prop} {W W':World} {i b:Nat} {a:Act} (h:∃ T',Ext T T' W W'/\Mod T W W'/\I i T' W'):Tame (Exit.inBlock b (BodyPostP I Ix Ip T W i)) .normal a W':=⟨(fun h=>by cases h),h⟩
theorem leaves_marks_panic {fn:Func} {tmps:Array Value} {R:Ending->World->Prop} {ch:List PanicEntry}:∀ (ds:List Nat) (W:World),ds.Nodup->(∀ d∈ds,W.heap[d]?=some (.deferred (some []))) ->
  (∀ W',Mod (fun k=>k∈ds) W W'->R (.panicked ch) W')->LeavesInM Fence.wide 0 P fn tmps R (ds.map mark) (.panicking ch) W
 | [],W,_,_,hR=>hR W (Mod.refl _ _)
 | d :: ds,W,hn,hd,hR=>by
  have hd0:=hd d (by simp)
  obtain ⟨hn0,hn⟩:=List.nodup_cons.1 hn
  refine ⟨by simp,.inl ⟨d,_,rfl,run_takeDeferred hd0,leaves_marks_panic ds _ hn (fun e he=>?_) (fun W' hm=>hR W' ?_)⟩⟩
  ·have hne:e ≠ d:=fun h=>hn0 (h ▸ he)
   exact (World.putObj_heap_other hne).trans (hd e (by simp [he]))
  ·exact ((Mod.putObj W d _).mono (fun k hk=>by simp [hk])).trans hm (fun k _ hk=>by simp [hk])
end Go.Chalk
