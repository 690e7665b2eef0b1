/- Joined texts: XRegion. -/
import Derived.WalkKit
import Derived.Orders
set_option linter.unusedVariables false
set_option linter.unusedSimpArgs false
/- A region that draws its order, by an invariant over which operations have come up. -/
namespace Go.Chalk
open Go.RowKit
variable {P:Program} {ops:Array Oper} {Q:Exit->Act->World->Prop}
theorem mem_ready {md:Region.Mode} {listed:Array Bool} {i:Nat} (h:i∈Region.ready md ops listed) :
  i<ops.size/\listed.getD i true=false/\∃ o,ops[i]?=some o/\∀ e∈o.after,Region.binds md e=true->listed.getD e.on false=true:=by
 unfold Region.ready at h
 rw [List.mem_filter] at h
 obtain ⟨h1,h2⟩:=h
 simp only [Bool.and_eq_true,Bool.not_eq_true'] at h2
 obtain ⟨h2,h3⟩:=h2
 refine ⟨by simpa using h1,h2,?_⟩
 cases ho:ops[i]? with
 | none=>rw [ho] at h3;simp at h3
 | some o =>
  rw [ho] at h3
  simp only [Option.map_some,Option.getD_some,Array.all_eq_true'] at h3
  refine ⟨o,rfl,fun e he hb=>?_⟩
  have:=h3 e he
  rw [hb] at this
  simpa using this

theorem wpAny_inv (Inv:Array Bool->Act->World->Prop)
  (step:∀ listed a w i,Inv listed a w->listed.size=ops.size->i∈Region.ready .any ops listed->wpOp P ops Q i (fun a' w'=>Inv (listed.setIfInBounds i true) a' w') a w)
  (fin:∀ listed a w,Inv listed a w->listed.size=ops.size->Region.ready .any ops listed=[]->Q .normal a w) :
  ∀ (fuel:Nat) (listed:Array Bool) (a:Act) (w:World),listed.size=ops.size->(listed.toList.filter (fun b=>!b)).length<=fuel->Inv listed a w->wpAny P .any ops Q fuel listed a w
 | 0,listed,a,w,hs,hc,hI=>by
  have hr:Region.ready .any ops listed=[]:=by
   apply List.eq_nil_iff_forall_not_mem.2
   intro i hi
   obtain ⟨h1,h2,_⟩:=mem_ready hi
   have hi':i<listed.size:=by omega
   have:listed[i]=false:=by simpa [Array.getD,hi'] using h2
   have hm:false∈listed.toList.filter (fun b=>!b):=List.mem_filter.2 ⟨by rw [<- this];simp,rfl⟩
   have:=List.length_pos_of_mem hm
   omega
  exact ⟨hr,fin listed a w hI hs hr⟩
 | fuel+1,listed,a,w,hs,hc,hI=>by
  refine ⟨fun hr=>fin listed a w hI hs hr,fun i hi=>wpOp_mono (fun a' w' hI'=>wpAny_inv Inv step fin fuel _ a' w' (by simp [hs]) ?_ hI') (step listed a w i hI hs hi)⟩
  obtain ⟨h1,h2,_⟩:=mem_ready hi
  have hi':i<listed.size:=by omega
  have hf:listed[i]=false:=by simpa [Array.getD,hi'] using h2
  have key:∀ (l:List Bool) (i:Nat) (h:i<l.length),l[i]=false->((l.set i true).filter (fun b=>!b)).length+1=(l.filter (fun b=>!b)).length:=by
   intro l
   induction l with
   | nil=>intro i h;simp at h
   | cons b r ih =>
    intro i h hb
    cases i with
    | zero=>simp at hb;subst hb;simp
    | succ i =>
     have:=ih i (by simpa using h) (by simpa using hb)
     cases b <;> simp at this ⊢ <;> omega
  have:=key listed.toList i (by simpa using hi') (by simpa using hf)
  rw [Array.toList_setIfInBounds]
  omega

theorem region_inv {id:Nat} {a:Act} {w:World} (hm:P.follows .mixedOrders=true) (Inv:Array Bool->Act->World->Prop) (h0:Inv (Array.replicate ops.size false) a w.drew)
  (step:∀ listed a w i,Inv listed a w->listed.size=ops.size->i∈Region.ready .any ops listed->wpOp P ops Q i (fun a' w'=>Inv (listed.setIfInBounds i true) a' w') a w)
  (fin:∀ listed a w,Inv listed a w->listed.size=ops.size->Region.ready .any ops listed=[]->Q .normal a w):(Code.region id ops true).wp P Q a w :=
 wp_region_any hm (wpAny_inv Inv step fin ops.size _ a _ (by simp) (by
  refine Nat.le_trans (List.length_filter_le _ _) (by simp)) h0)

end Go.Chalk
