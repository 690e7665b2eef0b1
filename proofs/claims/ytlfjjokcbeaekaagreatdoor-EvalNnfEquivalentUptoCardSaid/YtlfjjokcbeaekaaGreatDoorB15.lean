/- Joined texts: IterH, IterL. -/
import Derived.Test.YtlfjjokcbeaekaaGreatDoorB14
import Derived.Deep.RegionHeld3
import Derived.OrdersIn

/- A region that draws its order, within a round of a range over a function, with a condition held. -/
namespace Go.Chalk
open Go.RowKit
variable {P : Program} {ops : Array Oper} {md : Region.Mode}

/-- A post that is met at a plain end alone. -/
def Plain (Q : Exit → Act → World → Prop) (e : Exit) (a : Act) (w : World) : Prop := e = .normal ∧ Q e a w
theorem not_letsOut_plain {Q : Exit → Act → World → Prop} : ¬ LetsOut (Plain Q) := by
  rintro ⟨a, w, h⟩; cases h.1
theorem oper_round {l : Nat} {o : Oper} {Q : Exit → Act → World → Prop} {K : Act → World → Prop} {a : Act} {w : World} (hd : ∀ c, o.op ≠ .defer c) (h : o.wp P a w K Q) : o.wpIn (Fence.wide.inRound l) 0 P a w K Q := by
  refine ⟨fun _ _ => trivial, ?_⟩
  rw [Oper.semAt_eq _ _ _ hd]
  unfold Oper.wp at h
  generalize (execOp a.eval o).run P w = r at h ⊢
  cases r with
  | ok x w' =>
    cases x with
    | value v => exact h
    | skip => exact h
    | defer d => exact h
    | enter f args => exact ⟨(fun h => by cases h), CallsIn.inRound l (callsIn_wide.2 h)⟩
    | row row args => exact ⟨(fun h => by cases h), fun c cs _ => let ⟨v, w', r, s⟩ := h c cs; ⟨v, w', r, stepsIn_wide.2 s⟩⟩
    | _ => exact h.elim
  | halt x w' => cases x <;> exact h
theorem wpOp_round {l i : Nat} {Q : Exit → Act → World → Prop} {K : Act → World → Prop} {a : Act} {w : World} (hd : ∀ o, ops[i]? = some o → ∀ c, o.op ≠ .defer c) (h : wpOp P ops (Plain Q) i K a w) : wpOpIn (Fence.wide.inRound l) 0 P ops (Plain Q) i K a w := by
  unfold wpOp at h
  unfold wpOpIn
  cases ho : ops[i]? with
  | none => rw [ho] at h; exact h
  | some o =>
    rw [ho] at h
    simp only at h ⊢
    by_cases hw : Region.wanted o (yielded ops a.tmps) = true
    · rw [if_pos hw] at h ⊢
      rcases h with h | h
      · exact oper_round (hd o ho) h
      · exact absurd h.2 not_letsOut_plain
    · rw [if_neg hw] at h ⊢
      exact ⟨fun _ _ => trivial, h⟩
theorem wpAny_round {l : Nat} {Q : Exit → Act → World → Prop} (hd : ∀ (i : Nat) (o : Oper), ops[i]? = some o → ∀ c, o.op ≠ .defer c) : ∀ (fuel : Nat) (listed : Array Bool) (a : Act) (w : World), wpAny P md ops (Plain Q) fuel listed a w → wpAnyIn (Fence.wide.inRound l) 0 P md ops (Plain Q) fuel listed a w
  | 0, _, _, _, h => h
  | fuel + 1, _, _, _, h => ⟨h.1, fun i hi => wpOpIn_mono (fun _ _ => wpAny_round hd fuel _ _ _) (wpOp_round (hd i) (h.2 i hi))⟩
/-- Does an operation defer? -/
def isDefer : Op → Bool
  | .defer _ => true
  | _ => false
theorem wpIn_round_held {l id : Nat} {S : World → Prop} {Q : Exit → Act → World → Prop} {a : Act} {w : World} (hm : P.follows .mixedOrders = true) (hd : ops.all (fun o => !(isDefer o.op)) = true) (hS : S w.drew)
    (h : S w.drew → wpAnyH P .any ops (Plain Q) S ops.size (Array.replicate ops.size false) a w.drew) : (Code.region id ops true).wpIn (Fence.wide.inRound l) 0 P Q a w := by
  refine wpIn_mono (Q := Plain Q) (wpIn_region_any hm (wpAny_round (fun i o ho c hc => ?_) _ _ _ _ (wpAny_of_held _ _ _ _ (h hS)))) (fun _ _ _ h => h.2)
  obtain ⟨hi, he⟩ := Array.getElem?_eq_some_iff.1 ho
  have := Array.all_eq_true.1 hd i hi
  rw [he, hc] at this
  cases this
theorem plain_put {Q : Exit → Act → World → Prop} {d : Option Tmp} {v : Value} : ∀ c (a : Act) (w : World), Plain Q (.panic c) (a.put d v) w → Plain Q (.panic c) a w := fun _ _ _ h => by cases h.1
theorem take_at {Q : Exit → Act → World → Prop} {S : World → Prop} {i : Nat} {dst : Option Tmp} {op : Op} {ty : TypeId} {ps : String} {aft : Array Edge} {gd : Option (Nat × Bool)} {v : Value} {fuel : Nat} {listed : Array Bool} {a : Act} {w : World} (hi : ops[i]? = some ⟨dst, op, ty, ps, aft, gd⟩)
    (hs : Region.noSelect ops = true) (hf : Region.free md ops listed i = true) (hr : (Region.ready md ops listed).contains i = true)
    (hQ : ∀ c a w, Q (.panic c) (a.put dst v) w → Q (.panic c) a w) (hw : Region.wanted ⟨dst, op, ty, ps, aft, gd⟩ (yielded ops a.tmps) = true) (hy : ∀ w, S w → (execOp a.eval ⟨dst, op, ty, ps, aft, gd⟩).run P w = .ok (.value v) w) (hS : S w)
    (h : wpAnyH P md ops Q S fuel (listed.setIfInBounds i true) (a.put dst v) w) : wpAnyH P md ops Q S (fuel + 1) listed a w :=
  wpAnyH_take hi hs hf hr hQ (.inl ⟨hw, hy⟩) hS h
theorem cons_at {Q : Exit → Act → World → Prop} {S : World → Prop} {fuel : Nat} {listed : Array Bool} {a : Act} {w : World} {i : Nat} {dst : Option Tmp} {op : Op} {ty : TypeId} {ps : String} {aft : Array Edge} {gd : Option (Nat × Bool)} {rs : List Nat} (ho : ops[i]? = some ⟨dst, op, ty, ps, aft, gd⟩)
    (h : ∀ K' : Act → World → Prop, Hid (∀ a w, S w → (S w → wpAnyH P md ops Q S fuel (listed.setIfInBounds i true) a w) → K' a w) → if Region.wanted ⟨dst, op, ty, ps, aft, gd⟩ (yielded ops a.tmps) = true then Oper.wp P ⟨dst, op, ty, ps, aft, gd⟩ a w K' Q else K' (a.put dst undef) w)
    (hs : AllReadyH P md ops Q S fuel listed a w rs) : AllReadyH P md ops Q S fuel listed a w (i :: rs) := AllReadyH.cons ho (fun K' h' => h K' (Lib.hid h'.out)) hs
end Go.Chalk

/- A region in the order of the text, within a round of a range over a function: by the plain walk of its list. -/
namespace Go.Chalk
open Go.RowKit
variable {P : Program} {ops : Array Oper}
theorem wpList_round {l : Nat} {Q : Exit → Act → World → Prop} : ∀ (rest : List Oper) (a : Act) (w : World), (∀ o ∈ rest, ∀ c, o.op ≠ .defer c) → wpList P ops (Plain Q) rest a w → wpListIn (Fence.wide.inRound l) 0 P ops (Plain Q) rest a w
  | [], _, _, _, h => h
  | o :: rest, a, w, hd, h => by
    unfold wpList at h
    unfold wpListIn
    by_cases hw : Region.wanted o (yielded ops a.tmps) = true
    · rw [if_pos hw] at h ⊢
      rcases h with h | h
      · exact Oper.wpIn_mono (fun a' w' => wpList_round rest a' w' (fun o' ho => hd o' (List.mem_cons_of_mem _ ho))) (oper_round (hd o (List.mem_cons_self ..)) h)
      · exact absurd h.2 not_letsOut_plain
    · rw [if_neg hw] at h ⊢
      exact ⟨fun _ _ => trivial, wpList_round rest _ w (fun o' ho => hd o' (List.mem_cons_of_mem _ ho)) h⟩
theorem wpIn_round_lit {l id : Nat} {os : List Oper} {Q : Exit → Act → World → Prop} {a : Act} {w : World} (hd : os.all (fun o => !(isDefer o.op)) = true) (h : wpList P os.toArray (Plain Q) os a w) : (Code.region id os.toArray false).wpIn (Fence.wide.inRound l) 0 P Q a w := by
  refine wpIn_mono (Q := Plain Q) (wpIn_region_lit (wpList_round os a w (fun o ho c hc => ?_) h)) (fun _ _ _ h => h.2)
  have := List.all_eq_true.1 hd o ho
  rw [hc] at this
  cases this
end Go.Chalk
