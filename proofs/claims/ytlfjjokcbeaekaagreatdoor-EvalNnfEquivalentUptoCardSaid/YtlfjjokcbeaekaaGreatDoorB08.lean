/- Joined texts: LawNest, LawNnf. -/
import Derived.Test.YtlfjjokcbeaekaaGreatDoorB07

/- The plain law of nested quantifiers. No program is named here. -/
namespace Go.Chalk

theorem quant_all {α : Type} (n : Int) (l : List α) (p : α → Bool) : quantHolds 14 n (l.countP p) l.length = l.all p := by
  unfold quantHolds
  rw [if_pos rfl, Bool.eq_iff_iff, beq_iff_eq, List.countP_eq_length, List.all_eq_true]
theorem quant_any {α : Type} (n : Int) (l : List α) (p : α → Bool) : quantHolds 15 n (l.countP p) l.length = l.any p := by
  unfold quantHolds
  rw [if_neg (by decide), if_pos rfl, Bool.eq_iff_iff, decide_eq_true_eq, List.countP_pos_iff, List.any_eq_true]
/-- What Holds says of an error hangs on the formula's shape alone. -/
theorem evHolds_err {s : Schl} {w : List Plc} {env : List Ev} {f g : Frm} (h1 : (nodesF f).all formedF = (nodesF g).all formedF) (h2 : f.size = g.size) (h3 : f.depth = g.depth) (h4 : walkF (evBinds env) f = walkF (evBinds env) g) (h5 : broadF s f = broadF s g) : (evHolds s w env f).2 = (evHolds s w env g).2 := by
  have hc : frmCheck f = frmCheck g := by unfold frmCheck; rw [h1, h2, h3]
  have ht : typForm (evBinds env) f = typForm (evBinds env) g := by unfold typForm; rw [hc, h4]
  unfold evHolds; rw [ht, h5]
  split
  · rfl
  split
  · rfl
  split
  · rfl
  split <;> rfl
def pairFrm (kind : Int) (a b : Bnd) (f : Frm) : Frm := .mk kind [] 0 [] [a, b] [f]
theorem pair_formed {kind : Int} (hk : kind = 14 ∨ kind = 15) {a b : Bnd} {f : Frm} : (nodesF (pairFrm kind a b f)).all formedF = (bndOk a && bndOk b && (nodesF f).all formedF) := by
  rw [pairFrm, nodesF, nodesL, nodesL, List.append_nil, List.all_cons]
  congr 1
  unfold formedF partsOk
  rcases hk with rfl | rfl <;> simp [Frm.kind, Frm.n, Frm.l, Frm.terms, Frm.binds, Frm.name, arityF, quantK, atomK, countK, numberB]
theorem one_formed {kind : Int} (hk : kind = 14 ∨ kind = 15) {b : Bnd} {f : Frm} (hb : bndOk b = true) (hf : (nodesF f).all formedF = true) : (nodesF (quFrm kind 0 b f)).all formedF = true :=
  quFrm_formed (by rcases hk with h | h; exact .inl h; exact .inr (.inl h)) (by simp [numberB]) hb hf
theorem pair_walk {kind : Int} {e : List Bnd} {a b : Bnd} {f : Frm} : walkF e (pairFrm kind a b f) = 0 ↔ findB e a.name = none ∧ findB (e ++ [a]) b.name = none ∧ walkF (e ++ [a] ++ [b]) f = 0 := by
  rw [pairFrm, walkF_nil]
  simp only [bindAll]
  cases h1 : findB e a.name with
  | some i => simp
  | none =>
    cases h2 : findB (e ++ [a]) b.name with
    | some i => simp
    | none =>
      simp only [walkL]
      by_cases h0 : walkF (e ++ [a] ++ [b]) f = 0 <;> simp_all
theorem tuples_two (c d : Nat) : tuplesF [c, d] = (List.range c).flatMap (fun i => (List.range d).map (fun j => [i, j])) := by
  simp only [tuplesF, List.map_cons, List.map_nil]
  congr 1
  funext i
  have : ∀ l : List Nat, (l.flatMap fun i => [[i]]).map (fun t => i :: t) = l.map (fun j => [i, j]) := by
    intro l
    induction l with
    | nil => rfl
    | cons x r ih => rw [List.flatMap_cons, List.map_append, ih]; rfl
  exact this _
theorem pair_val {s : Schl} {w : List Plc} {env : List Ev} {kind : Int} (hk : kind = 14 ∨ kind = 15) {a b : Bnd} {f : Frm} :
    holdsF s w env (pairFrm kind a b f) = quantHolds kind 0 ((tuplesF [schCount s a.sort, schCount s b.sort]).countP (fun t => holdsF s w (withF env [a, b] t) f)) (tuplesF [schCount s a.sort, schCount s b.sort]).length := by
  rw [pairFrm, holdsF_nil]
  rcases hk with rfl | rfl <;> simp [holdsAt, sizesF]
/-- EvalNestedQuantifiers, of the functions. -/
theorem nested_law (s : Schl) (w : List Plc) (env : List Ev) (f : Frm) (a b : Bnd) :
    (if (evHolds s w env (pairFrm 14 a b f)).2 ≠ 0 then !(evHolds s w env (pairFrm 14 a b f)).1 && !(evHolds s w env (pairFrm 15 a b f)).1 && (evHolds s w env (pairFrm 15 a b f)).2 == (evHolds s w env (pairFrm 14 a b f)).2
     else if (evHolds s w env (quFrm 14 0 a (quFrm 14 0 b f))).2 ≠ 0 ∨ (evHolds s w env (quFrm 15 0 b (quFrm 15 0 a f))).2 ≠ 0 then
       ((evHolds s w env (quFrm 14 0 a (quFrm 14 0 b f))).2 == 0 || (evHolds s w env (quFrm 14 0 a (quFrm 14 0 b f))).2 == 2) && ((evHolds s w env (quFrm 15 0 b (quFrm 15 0 a f))).2 == 0 || (evHolds s w env (quFrm 15 0 b (quFrm 15 0 a f))).2 == 2)
     else (evHolds s w env (quFrm 14 0 a (quFrm 14 0 b f))).1 == (evHolds s w env (pairFrm 14 a b f)).1 && (evHolds s w env (quFrm 15 0 b (quFrm 15 0 a f))).1 == (evHolds s w env (pairFrm 15 a b f)).1) = true := by
  have herr : (evHolds s w env (pairFrm 15 a b f)).2 = (evHolds s w env (pairFrm 14 a b f)).2 := by
    refine evHolds_err (by rw [pair_formed (.inr rfl), pair_formed (.inl rfl)]) (by simp [pairFrm, Frm.size]) (by simp [pairFrm, Frm.depth]) ?_ (by simp [pairFrm, broadF])
    rw [pairFrm, pairFrm, walkF_nil, walkF_nil]
  split
  · rename_i h
    rw [evHolds_false h, evHolds_false (by rw [herr]; exact h), herr]; simp
  · rename_i h
    have h0 : (evHolds s w env (pairFrm 14 a b f)).2 = 0 := Decidable.byContradiction h
    have k1 := evHolds_ok.1 h0
    have k2 := evHolds_ok.1 (herr.trans h0)
    have hfm := k1.formed
    rw [pair_formed (.inl rfl)] at hfm
    simp only [Bool.and_eq_true] at hfm
    obtain ⟨⟨ha, hb⟩, hf⟩ := hfm
    obtain ⟨w1, w2, w3⟩ := pair_walk.1 k1.walk
    have hmay := evMay_mayA k1.may
    have n1 : mayA (evBinds env ++ [a] ++ [b]) = true := mayA_snoc.2 ⟨mayA_snoc.2 ⟨hmay, ha, w1⟩, hb, w2⟩
    have hperm : (evBinds env ++ [a] ++ [b]).Perm (evBinds env ++ [b] ++ [a]) := by
      rw [List.append_assoc, List.append_assoc]; exact List.Perm.append_left _ (List.Perm.swap _ _ _)
    have n2 := mayA_perm hperm n1
    obtain ⟨n3, _, n4⟩ := mayA_snoc.1 n2
    obtain ⟨_, _, n5⟩ := mayA_snoc.1 n3
    have x1 := evHolds_or k1.week k1.may (one_formed (.inl rfl) ha (one_formed (.inl rfl) hb hf)) (quFrm_walk.2 ⟨w1, quFrm_walk.2 ⟨w2, w3⟩⟩)
    have x2 := evHolds_or k1.week k1.may (one_formed (.inr rfl) hb (one_formed (.inr rfl) ha hf)) (quFrm_walk.2 ⟨n5, quFrm_walk.2 ⟨n4, (walkF_same f (SameB.of_perm hperm n1)).symm.trans w3⟩⟩)
    split
    · rcases x1 with ⟨_, _, _, e1⟩ | ⟨_, e1⟩ <;> rcases x2 with ⟨_, _, _, e2⟩ | ⟨_, e2⟩ <;> rw [e1, e2] <;> rfl
    · rename_i hne
      have e1 : evHolds s w env (quFrm 14 0 a (quFrm 14 0 b f)) = (holdsF s w env (quFrm 14 0 a (quFrm 14 0 b f)), 0) := by
        rcases x1 with ⟨_, _, _, e1⟩ | ⟨_, e1⟩
        · exact e1
        · exact absurd (.inl (by rw [e1]; decide)) hne
      have e2 : evHolds s w env (quFrm 15 0 b (quFrm 15 0 a f)) = (holdsF s w env (quFrm 15 0 b (quFrm 15 0 a f)), 0) := by
        rcases x2 with ⟨_, _, _, e2⟩ | ⟨_, e2⟩
        · exact e2
        · exact absurd (.inr (by rw [e2]; decide)) hne
      rw [e1, e2, evHolds_val k1, evHolds_val k2]
      simp only
      have ra := fun {α : Type} (n : Int) (c : Nat) (p : Nat → Bool) => (by have := quant_all n (List.range c) p; rwa [List.length_range] at this : quantHolds 14 n ((List.range c).countP p) c = (List.range c).all p)
      have ry := fun {α : Type} (n : Int) (c : Nat) (p : Nat → Bool) => (by have := quant_any n (List.range c) p; rwa [List.length_range] at this : quantHolds 15 n ((List.range c).countP p) c = (List.range c).any p)
      rw [pair_val (.inl rfl), pair_val (.inr rfl), quant_all, quant_any, tuples_two, quFrm_val (.inl rfl), quFrm_val (.inr (.inl rfl)), ra (α := Nat), ry (α := Nat)]
      have f1 : (fun i : Nat => holdsF s w (env ++ [(⟨a.name, a.sort, (i : Int)⟩ : Ev)]) (quFrm 14 0 b f)) = fun i : Nat => (List.range (schCount s b.sort)).all (fun j => holdsF s w (withF env [a, b] [i, j]) f) := by
        funext i
        rw [quFrm_val (.inl rfl), ra (α := Nat)]
        congr 1
        funext j
        simp [withF]
      have f2 : (fun i : Nat => holdsF s w (env ++ [(⟨b.name, b.sort, (i : Int)⟩ : Ev)]) (quFrm 15 0 a f)) = fun j : Nat => (List.range (schCount s a.sort)).any (fun i => holdsF s w (env ++ [⟨b.name, b.sort, (j : Int)⟩] ++ [⟨a.name, a.sort, (i : Int)⟩]) f) := by
        funext i
        rw [quFrm_val (.inr (.inl rfl)), ry (α := Nat)]
      rw [f1, f2]
      rw [Bool.and_eq_true, beq_iff_eq, beq_iff_eq]
      constructor
      · rw [Bool.eq_iff_iff]
        simp only [List.all_eq_true, List.mem_range, List.mem_flatMap, List.mem_map]
        constructor
        · rintro h _ ⟨i, hi, j, hj, rfl⟩; exact h i hi j hj
        · intro h i hi j hj; exact h _ ⟨i, hi, j, hj, rfl⟩
      · rw [Bool.eq_iff_iff]
        simp only [List.any_eq_true, List.mem_range, List.mem_flatMap, List.mem_map]
        have sw : ∀ i j : Nat, holdsF s w (env ++ [(⟨b.name, b.sort, (j : Int)⟩ : Ev)] ++ [(⟨a.name, a.sort, (i : Int)⟩ : Ev)]) f = holdsF s w (withF env [a, b] [i, j]) f := by
          intro i j
          refine holdsF_same s w f ?_
          have hp : (env ++ [(⟨a.name, a.sort, (i : Int)⟩ : Ev)] ++ [(⟨b.name, b.sort, (j : Int)⟩ : Ev)]).Perm (env ++ [(⟨b.name, b.sort, (j : Int)⟩ : Ev)] ++ [(⟨a.name, a.sort, (i : Int)⟩ : Ev)]) := by
            rw [List.append_assoc, List.append_assoc]; exact List.Perm.append_left _ (List.Perm.swap _ _ _)
          have := SameE.of_perm hp (by rw [evBinds_snoc, evBinds_snoc]; exact n1)
          intro n
          have := this n
          simp [withF] at this ⊢
          exact this.symm
        constructor
        · rintro ⟨j, hj, i, hi, h⟩; exact ⟨_, ⟨i, hi, j, hj, rfl⟩, by rw [← sw]; exact h⟩
        · rintro ⟨_, ⟨i, hi, j, hj, rfl⟩, h⟩; exact ⟨j, hj, i, hi, by rw [sw]; exact h⟩
end Go.Chalk

/- The plain law of negation normal forms. No program is named here. -/
namespace Go.Chalk

def alwaysF (kind n : Int) : Bool := decide (kind = 1) || (decide (kind = 16) && decide (n = 0)) || (decide (kind = 17) && decide (n = 1099511627776))
def dualK (k : Int) : Int := if k = 1 then 2 else if k = 2 then 1 else if k = 11 then 12 else if k = 12 then 11 else if k = 14 then 15 else if k = 15 then 14 else if k = 16 then 17 else if k = 17 then 16 else 0
def negS (name : Bs) : Bs := if name = [61] then [33, 61] else if name = [33, 61] then [61] else if name = [60] then [62, 61] else if name = [62, 61] then [60] else if name = [60, 61] then [62] else if name = [62] then [60, 61] else []
def noFrm : Frm := .mk 2 [] 0 [] [] []
def yesFrm : Frm := .mk 1 [] 0 [] [] []
def zeroFrm : Frm := .mk 0 [] 0 [] [] []
def rightNode (kind : Int) (name : Bs) (n : Int) (terms : List Trm) (binds : List Bnd) (l same flip : List Frm) (turn : Bool) : Frm :=
  if (alwaysF kind n && turn) || (decide (kind = 2) && !turn) then noFrm
  else if alwaysF kind n || decide (kind = 2) then yesFrm
  else if kind = 10 then flip.headD zeroFrm
  else if kind = 13 then .mk (if turn then 11 else 12) [] 0 [] [] [flip.headD zeroFrm, (same.drop 1).headD zeroFrm]
  else if atomK kind && turn && decide (kind ≠ 9) then .mk 10 [] 0 [] [] [.mk kind name n terms binds l]
  else .mk (if turn && decide (kind ≠ 9) then dualK kind else kind) (if turn && decide (kind = 9) then negS name else name) (if turn then (if kind = 16 then n - 1 else if kind = 17 then n + 1 else n) else n) terms binds (if turn && countK kind then flip else same)
mutual
/-- formula.right -/
def rightF : Frm → Bool → Frm
  | .mk kind name n terms binds l, turn => rightNode kind name n terms binds l (rightL l turn) (rightL l (!turn)) turn
def rightL : List Frm → Bool → List Frm
  | [], _ => []
  | f :: r, turn => rightF f turn :: rightL r turn
end
/-- formula.Nnf -/
def nnfF (f : Frm) : Frm × Int := if frmCheck f ≠ 0 then (zeroFrm, frmCheck f) else (rightF f false, 0)

theorem parts_of {kind : Int} {name : Bs} {n : Int} {terms : List Trm} {binds : List Bnd} {l : List Frm} (h : formedF (.mk kind name n terms binds l) = true) :
    arityF kind = some l.length ∧ (terms = [] ∨ atomK kind = true) ∧ (binds = [] ∨ quantK kind = true) ∧ (n = 0 ∨ countK kind = true) ∧ (name = [] ∨ kind = 9) := by
  rw [formedF_mk, Bool.and_eq_true, partsOk_mk] at h
  have h := h.1
  simp only [Bool.and_eq_true, Bool.or_eq_true, beq_iff_eq, List.isEmpty_iff, decide_eq_true_eq] at h
  obtain ⟨⟨⟨⟨h1, h2⟩, h3⟩, h4⟩, h5⟩ := h
  exact ⟨h1, h2, h3, h4, h5⟩
theorem arity_cases {kind : Int} {n : Nat} (h : arityF kind = some n) : (n = 0 ∧ (kind = 1 ∨ kind = 2 ∨ kind = 3 ∨ kind = 4 ∨ kind = 5 ∨ kind = 6 ∨ kind = 7 ∨ kind = 8 ∨ kind = 9)) ∨ (n = 1 ∧ kind = 10) ∨ (n = 2 ∧ (kind = 11 ∨ kind = 12 ∨ kind = 13)) ∨ (n = 1 ∧ (kind = 14 ∨ kind = 15 ∨ kind = 16 ∨ kind = 17)) := by
  unfold arityF at h
  split at h
  · cases h
  split at h
  · simp at h; exact .inl ⟨h.symm, by omega⟩
  split at h
  · simp at h; exact .inr (.inl ⟨h.symm, by assumption⟩)
  split at h
  · simp at h; exact .inr (.inr (.inl ⟨h.symm, by omega⟩))
  · simp at h; exact .inr (.inr (.inr ⟨h.symm, by omega⟩))
theorem len_two {α : Type} {l : List α} (h : l.length = 2) : ∃ a b, l = [a, b] := by
  match l, h with
  | [a, b], _ => exact ⟨a, b, rfl⟩
theorem cmp_neg {name : Bs} (h : cmpL.contains name = true) (a b : Int) : cmpHolds (negS name) a b = !(cmpHolds name a b) ∧ cmpL.contains (negS name) = true ∧ ((negS name = [61] ∨ negS name = [33, 61]) ↔ (name = [61] ∨ name = [33, 61])) := by
  have : name = [61] ∨ name = [33, 61] ∨ name = [60] ∨ name = [60, 61] ∨ name = [62] ∨ name = [62, 61] := by
    simpa [cmpL] using h
  rcases this with rfl | rfl | rfl | rfl | rfl | rfl <;> refine ⟨?_, by decide, by decide⟩ <;> simp only [negS, cmpHolds] <;> simp <;> (try (rw [Bool.eq_iff_iff]; simp)) <;> (try omega)
theorem cmp_walk {name : Bs} (h : cmpL.contains name = true) (a : List Bnd) (t u : Trm) : cmpWalk a (negS name) t u = cmpWalk a name t u := by
  have : name = [61] ∨ name = [33, 61] ∨ name = [60] ∨ name = [60, 61] ∨ name = [62] ∨ name = [62, 61] := by
    simpa [cmpL] using h
  rcases this with rfl | rfl | rfl | rfl | rfl | rfl <;> simp [negS, cmpWalk]
theorem formed_cmp {name : Bs} {n : Int} {terms : List Trm} {binds : List Bnd} {l : List Frm} (h : formedF (.mk 9 name n terms binds l) = true) : cmpL.contains name = true ∧ ∃ t u, terms = [t, u] := by
  rw [formedF_mk, Bool.and_eq_true] at h
  have h := h.2
  by_cases hc : cmpL.contains name = false
  · rw [if_pos ⟨rfl, hc⟩] at h; cases h
  rw [if_neg (fun h => hc h.2), if_pos (by decide)] at h
  simp only [Bool.and_eq_true, decide_eq_true_eq] at h
  obtain ⟨t, u, e⟩ := len_two h.1
  exact ⟨by simpa using hc, t, u, e⟩
theorem formed_atom {kind : Int} {name : Bs} {n : Int} {terms : List Trm} {binds : List Bnd} {l : List Frm} (hk : atomK kind = true) (h : formedF (.mk kind name n terms binds l) = true) : ∃ t u, terms = [t, u] := by
  rw [formedF_mk, Bool.and_eq_true] at h
  have h := h.2
  by_cases hc : kind = 9 ∧ cmpL.contains name = false
  · rw [if_pos hc] at h; cases h
  rw [if_neg hc, if_pos hk] at h
  simp only [Bool.and_eq_true, decide_eq_true_eq] at h
  exact len_two h.1
theorem formed_quant {kind : Int} {name : Bs} {n : Int} {terms : List Trm} {binds : List Bnd} {l : List Frm} (hk : quantK kind = true) : formedF (.mk kind name n terms binds l) = (partsOk (.mk kind name n terms binds l) && (decide (0 < binds.length) && decide (binds.length ≤ 6) && binds.all bndOk && numberB n)) := by
  have h9 : kind ≠ 9 := by unfold quantK at hk; simp at hk; omega
  have ha : ¬ (atomK kind = true) := by unfold quantK at hk; unfold atomK; simp at hk ⊢; omega
  rw [formedF_mk, if_neg (fun h => h9 h.1), if_neg ha, if_pos hk]
theorem tuples_length : ∀ l : List Nat, (tuplesF l).length = l.prod
  | [] => rfl
  | k :: r => by
    rw [tuplesF, List.prod_cons, ← tuples_length r]
    generalize tuplesF r = t
    suffices h : ∀ m : List Nat, (m.flatMap (fun i => t.map (i :: ·))).length = m.length * t.length by simpa using h (List.range k)
    intro m
    induction m with
    | nil => simp
    | cons x m ih => rw [List.flatMap_cons, List.length_append, ih, List.length_map, List.length_cons, Nat.add_mul]; omega
theorem prod_le (B : Nat) : ∀ l : List Nat, (∀ x ∈ l, x ≤ B) → l.prod ≤ B ^ l.length
  | [], _ => by simp
  | x :: r, h => by
    rw [List.prod_cons, List.length_cons, Nat.pow_succ, Nat.mul_comm]
    exact Nat.mul_le_mul (prod_le B r (fun y hy => h y (by simp [hy]))) (h x (by simp))
theorem tuples_few {s : Schl} (hs : ∀ sort, schCount s sort ≤ 64) {binds : List Bnd} (hb : binds.length ≤ 6) : (tuplesF (sizesF s binds)).length ≤ 68719476736 := by
  rw [tuples_length]
  have h1 := prod_le 64 (sizesF s binds) (fun x hx => by obtain ⟨b, _, rfl⟩ := List.mem_map.1 hx; exact hs _)
  have h2 : (sizesF s binds).length = binds.length := by simp [sizesF]
  rw [h2] at h1
  have h3 : 64 ^ binds.length ≤ 64 ^ 6 := Nat.pow_le_pow_right (by omega) hb
  have h4 : (64 : Nat) ^ 6 = 68719476736 := by decide
  omega
theorem quant_neg (kind n : Int) (hk : kind = 14 ∨ kind = 15 ∨ kind = 16 ∨ kind = 17) (l : List (List Nat)) (p : List Nat → Bool) (same : Bool) :
    quantHolds (dualK kind) (if kind = 16 then n - 1 else if kind = 17 then n + 1 else n) (l.countP (fun t => if countK kind then p t else !(p t))) l.length = !(quantHolds kind n (l.countP p) l.length) := by
  rcases hk with rfl | rfl | rfl | rfl
  · have e : dualK 14 = 15 := by decide
    have ec : countK 14 = false := by decide
    rw [e, ec]
    simp only [Bool.false_eq_true, if_false]
    rw [quant_any, quant_all]; simp [List.not_all_eq_any_not]
  · have e : dualK 15 = 14 := by decide
    have ec : countK 15 = false := by decide
    rw [e, ec]
    simp only [Bool.false_eq_true, if_false]
    rw [quant_any, quant_all]; simp [List.not_any_eq_all_not]
  · have e : dualK 16 = 17 := by decide
    have ec : countK 16 = true := by decide
    rw [e, ec]
    simp only [if_true]
    rw [show (fun t => p t) = p from rfl]
    unfold quantHolds
    simp only [show ¬ ((17 : Int) = 14) by decide, show ¬ ((17 : Int) = 15) by decide, show ¬ ((17 : Int) = 16) by decide, show ¬ ((16 : Int) = 14) by decide, show ¬ ((16 : Int) = 15) by decide, if_false, if_true]
    rw [Bool.eq_iff_iff]; simp; omega
  · have e : dualK 17 = 16 := by decide
    have ec : countK 17 = true := by decide
    rw [e, ec]
    simp only [if_true]
    rw [show (fun t => p t) = p from rfl]
    unfold quantHolds
    simp only [show ¬ ((17 : Int) = 14) by decide, show ¬ ((17 : Int) = 15) by decide, show ¬ ((17 : Int) = 16) by decide, show ¬ ((16 : Int) = 14) by decide, show ¬ ((16 : Int) = 15) by decide, if_false, if_true]
    rw [Bool.eq_iff_iff]; simp; omega

/-- What the negation normal form of a node keeps. -/
structure NnfOk (s : Schl) (f g : Frm) (turn : Bool) : Prop where
  formed : (nodesF g).all formedF = true
  walk : ∀ a, walkF a f = 0 → walkF a g = 0
  val : ∀ w env, holdsF s w env g = (holdsF s w env f != turn)
theorem node_formed {kind : Int} {name : Bs} {n : Int} {terms : List Trm} {binds : List Bnd} {l : List Frm} : (nodesF (.mk kind name n terms binds l)).all formedF = true ↔ formedF (.mk kind name n terms binds l) = true ∧ (nodesL l).all formedF = true := by
  rw [nodesF, List.all_cons, Bool.and_eq_true]
theorem leaf_ok (s : Schl) (f : Frm) (turn : Bool) (b : Bool) (hv : ∀ w env, b = (holdsF s w env f != turn)) : NnfOk s f (if b then yesFrm else noFrm) turn := by
  cases b
  · exact ⟨by decide, fun _ _ => rfl, fun w env => by rw [← hv w env]; rfl⟩
  · exact ⟨by decide, fun _ _ => rfl, fun w env => by rw [← hv w env]; rfl⟩
theorem right_main (s : Schl) (hs : ∀ sort, schCount s sort ≤ 64) : ∀ (f : Frm), (nodesF f).all formedF = true → ∀ turn, NnfOk s f (rightF f turn) turn
  | .mk kind name n terms binds l, h, turn => by
    obtain ⟨hf, hl⟩ := node_formed.1 h
    obtain ⟨h1, h2, h3, h4, h5⟩ := parts_of hf
    rw [rightF]
    rcases arity_cases h1 with ⟨hlen, hk⟩ | ⟨hlen, rfl⟩ | ⟨hlen, hk⟩ | ⟨hlen, hk⟩
    · obtain rfl : l = [] := List.length_eq_zero_iff.1 hlen
      rcases hk with rfl | rfl | hk
      · have e : rightNode 1 name n terms binds [] (rightL [] turn) (rightL [] (!turn)) turn = if !turn then yesFrm else noFrm := by cases turn <;> simp [rightNode, alwaysF]
        rw [e]; exact leaf_ok s _ _ _ (fun w env => by rw [holdsF.eq_def]; simp)
      · have e : rightNode 2 name n terms binds [] (rightL [] turn) (rightL [] (!turn)) turn = if turn then yesFrm else noFrm := by cases turn <;> simp [rightNode, alwaysF]
        rw [e]; exact leaf_ok s _ _ _ (fun w env => by rw [holdsF.eq_def]; simp)
      · have ha : atomK kind = true := by unfold atomK; simp; omega
        have hb : binds = [] := by rcases h3 with h | h; exact h; unfold quantK at h; simp at h; omega
        subst hb
        obtain ⟨t, u, rfl⟩ := formed_atom ha hf
        have hal : alwaysF kind n = false := by unfold alwaysF; simp; omega
        have k2 : ¬ kind = 2 := by omega
        have k10 : ¬ kind = 10 := by omega
        have k13 : ¬ kind = 13 := by omega
        have kc : countK kind = false := by unfold countK; simp; omega
        by_cases h9 : kind = 9
        · subst h9
          obtain ⟨hc, _⟩ := formed_cmp hf
          have e : rightNode 9 name n [t, u] [] [] (rightL [] turn) (rightL [] (!turn)) turn = .mk 9 (if turn then negS name else name) n [t, u] [] [] := by
            cases turn <;> simp [rightNode, hal, rightL, countK]
          rw [e]
          cases turn
          · exact ⟨h, fun a ha => ha, fun w env => by simp⟩
          · obtain ⟨_, c2, c3⟩ := cmp_neg hc 0 0
            refine ⟨?_, fun a hw => ?_, fun w env => ?_⟩
            · refine node_formed.2 ⟨?_, hl⟩
              rw [formedF_mk, partsOk_mk] at hf ⊢
              rw [if_neg (fun h => by rw [hc] at h; cases h.2)] at hf
              simp only [if_true]
              rw [if_neg (fun h => by rw [c2] at h; cases h.2)]
              simpa using hf
            · rw [walkF_two, if_pos rfl] at hw ⊢
              simp only [if_true]
              rw [cmp_walk hc]; exact hw
            · rw [holdsF_two, holdsF_two]
              simp only [if_true]
              have := (cmp_neg hc (valueF s env t) (valueF s env u)).1
              simp [this]
        · cases turn
          · have e : rightNode kind name n [t, u] [] [] (rightL [] false) (rightL [] (!false)) false = .mk kind name n [t, u] [] [] := by
              simp [rightNode, hal, k2, k10, k13, rightL]
            rw [e]
            exact ⟨h, fun a ha => ha, fun w env => by simp⟩
          · have e : rightNode kind name n [t, u] [] [] (rightL [] true) (rightL [] (!true)) true = notFrm (.mk kind name n [t, u] [] []) := by
              simp [rightNode, hal, k2, k10, k13, rightL, ha, h9, notFrm]
            rw [e]
            refine ⟨?_, fun a hw => ?_, fun w env => ?_⟩
            · rw [notFrm, nodesF, nodesL, nodesL, List.append_nil, List.all_cons, h, Bool.and_true]; rfl
            · rw [notFrm, walkF_nil]; simp only [bindAll, walkL, hw]; simp
            · rw [notFrm, holdsF_nil]; simp [holdsAt]
    · obtain ⟨x, rfl⟩ := List.length_eq_one_iff.1 hlen.symm.symm
      have ht : terms = [] := by rcases h2 with h | h; exact h; exact absurd h (by decide)
      have hb : binds = [] := by rcases h3 with h | h; exact h; exact absurd h (by decide)
      subst ht hb
      rw [nodesL, nodesL, List.append_nil] at hl
      have e : rightNode 10 name n [] [] [x] (rightL [x] turn) (rightL [x] (!turn)) turn = rightF x (!turn) := by simp [rightNode, alwaysF, rightL]
      rw [e]
      obtain ⟨g1, g2, g3⟩ := right_main s hs x hl (!turn)
      refine ⟨g1, fun a hw => g2 a ?_, fun w env => ?_⟩
      · rw [walkF_nil] at hw
        simp only [bindAll, walkL] at hw
        by_cases h0 : walkF a x = 0
        · exact h0
        · rw [if_pos h0] at hw; exact hw
      · rw [g3, holdsF_nil]; cases turn <;> simp [holdsAt]
    · obtain ⟨x, y, rfl⟩ := len_two hlen.symm.symm
      have ht : terms = [] := by rcases h2 with h | h; exact h; unfold atomK at h; simp at h; omega
      have hb : binds = [] := by rcases h3 with h | h; exact h; unfold quantK at h; simp at h; omega
      have hn : n = 0 := by rcases h4 with h | h; exact h; unfold countK at h; simp at h; omega
      have hnm : name = [] := by rcases h5 with h | h; exact h; omega
      subst ht hb hn hnm
      have hl2 := hl
      rw [nodesL, nodesL, nodesL, List.append_nil, List.all_append, Bool.and_eq_true] at hl2
      have X := fun t => right_main s hs x hl2.1 t
      have Y := fun t => right_main s hs y hl2.2 t
      have wk : ∀ a, walkF a (.mk kind [] 0 [] [] [x, y]) = 0 → walkF a x = 0 ∧ walkF a y = 0 := fun a hw => by
        rw [walkF_nil] at hw
        simp only [bindAll, walkL] at hw
        by_cases h0 : walkF a x = 0
        · rw [if_neg (by simp [h0])] at hw
          by_cases h1 : walkF a y = 0
          · exact ⟨h0, h1⟩
          · rw [if_pos h1] at hw; exact absurd hw h1
        · rw [if_pos h0] at hw; exact absurd hw h0
      have two : ∀ (k2 : Int) (p q : Bool), (k2 = 11 ∨ k2 = 12) → (∀ w env, holdsF s w env (twoFrm k2 (rightF x p) (rightF y q)) = (holdsF s w env (.mk kind [] 0 [] [] [x, y]) != turn)) → NnfOk s (.mk kind [] 0 [] [] [x, y]) (twoFrm k2 (rightF x p) (rightF y q)) turn := fun k2 p q hk2 hv =>
        ⟨two_formed k2 (by omega) (X p).formed (Y q).formed, fun a hw => two_walk k2 ((X p).walk a (wk a hw).1) ((Y q).walk a (wk a hw).2), hv⟩
      rcases hk with rfl | rfl | rfl
      · have e : rightNode 11 [] 0 [] [] [x, y] (rightL [x, y] turn) (rightL [x, y] (!turn)) turn = twoFrm (if turn then 12 else 11) (rightF x turn) (rightF y turn) := by
          cases turn <;> simp [rightNode, alwaysF, rightL, twoFrm, atomK, countK, dualK]
        rw [e]
        refine two _ _ _ (by cases turn <;> simp) (fun w env => ?_)
        rw [twoFrm, holdsF_nil, holdsF_nil]
        cases turn <;> simp [holdsAt, (X _).val, (Y _).val]
      · have e : rightNode 12 [] 0 [] [] [x, y] (rightL [x, y] turn) (rightL [x, y] (!turn)) turn = twoFrm (if turn then 11 else 12) (rightF x turn) (rightF y turn) := by
          cases turn <;> simp [rightNode, alwaysF, rightL, twoFrm, atomK, countK, dualK]
        rw [e]
        refine two _ _ _ (by cases turn <;> simp) (fun w env => ?_)
        rw [twoFrm, holdsF_nil, holdsF_nil]
        cases turn <;> simp [holdsAt, (X _).val, (Y _).val]
      · have e : rightNode 13 [] 0 [] [] [x, y] (rightL [x, y] turn) (rightL [x, y] (!turn)) turn = twoFrm (if turn then 11 else 12) (rightF x (!turn)) (rightF y turn) := by
          cases turn <;> simp [rightNode, alwaysF, rightL, twoFrm]
        rw [e]
        refine two _ _ _ (by cases turn <;> simp) (fun w env => ?_)
        rw [twoFrm, holdsF_nil, holdsF_nil]
        cases turn <;> simp [holdsAt, (X _).val, (Y _).val]
    · obtain ⟨x, rfl⟩ := List.length_eq_one_iff.1 hlen.symm.symm
      have hq : quantK kind = true := by unfold quantK; simp; omega
      have ht : terms = [] := by rcases h2 with h | h; exact h; unfold atomK at h; simp at h; omega
      have hnm : name = [] := by rcases h5 with h | h; exact h; omega
      subst ht hnm
      rw [nodesL, nodesL, List.append_nil] at hl
      have X := fun t => right_main s hs x hl t
      rw [formed_quant hq] at hf
      simp only [Bool.and_eq_true, decide_eq_true_eq] at hf
      obtain ⟨hpo, ⟨⟨hb1, hb2⟩, hb3⟩, hnum⟩ := hf
      have hfew := tuples_few hs hb2
      have hnum' : 0 ≤ n ∧ n ≤ 1099511627776 := by unfold numberB at hnum; simpa using hnum
      by_cases hal : alwaysF kind n = true
      · have e : rightNode kind [] n [] binds [x] (rightL [x] turn) (rightL [x] (!turn)) turn = if !turn then yesFrm else noFrm := by
          have k2 : ¬ kind = 2 := by omega
          cases turn <;> simp [rightNode, hal, k2]
        rw [e]
        refine leaf_ok s _ _ _ (fun w env => ?_)
        rw [holdsF_nil]
        have : ∀ y : Nat, y ≤ (tuplesF (sizesF s binds)).length → quantHolds kind n y (tuplesF (sizesF s binds)).length = true := fun y hy => by
          unfold alwaysF at hal
          simp at hal
          have : (kind = 16 ∧ n = 0) ∨ (kind = 17 ∧ n = 1099511627776) := by omega
          rcases this with ⟨rfl, rfl⟩ | ⟨rfl, rfl⟩
          · simp [quantHolds]
          · simp [quantHolds]; omega
        have hne : ¬ kind = 1 ∧ ¬ kind = 2 ∧ ¬ kind = 10 ∧ ¬ kind = 11 ∧ ¬ kind = 12 ∧ ¬ kind = 13 := by omega
        rw [if_neg hne.1, if_neg hne.2.1, if_neg hne.2.2.1, if_neg hne.2.2.2.1, if_neg hne.2.2.2.2.1, if_neg hne.2.2.2.2.2, this _ (List.countP_le_length)]
        cases turn <;> rfl
      · have hal' : alwaysF kind n = false := by simpa using hal
        have e : rightNode kind [] n [] binds [x] (rightL [x] turn) (rightL [x] (!turn)) turn = .mk (if turn then dualK kind else kind) [] (if turn then (if kind = 16 then n - 1 else if kind = 17 then n + 1 else n) else n) [] binds [rightF x (turn && !(countK kind))] := by
          have hne : ¬ kind = 2 ∧ ¬ kind = 10 ∧ ¬ kind = 13 ∧ ¬ kind = 9 := by omega
          have ha : atomK kind = false := by unfold atomK; simp; omega
          cases turn <;> cases hc : countK kind <;> simp [rightNode, hal', hne.1, hne.2.1, hne.2.2.1, hne.2.2.2, ha, hc, rightL]
        rw [e]
        have hdk : dualK kind = 14 ∨ dualK kind = 15 ∨ dualK kind = 16 ∨ dualK kind = 17 := by rcases hk with rfl | rfl | rfl | rfl <;> decide
        refine ⟨node_formed.2 ⟨?_, ?_⟩, fun a hw => ?_, fun w env => ?_⟩
        · cases turn
          · simp only [Bool.false_eq_true, if_false]
            rw [formed_quant hq, partsOk_mk]
            rw [partsOk_mk] at hpo
            simp [hpo, hb1, hb2, hb3, hnum] at hpo ⊢
            simpa using hpo
          · simp only [if_true]
            have hq2 : quantK (dualK kind) = true := by unfold quantK; simp; omega
            rw [formed_quant hq2, partsOk_mk]
            have a1 : arityF (dualK kind) = some 1 := by rcases hk with rfl | rfl | rfl | rfl <;> decide
            unfold alwaysF at hal'
            simp at hal'
            rcases hk with rfl | rfl | rfl | rfl
            · rcases h4 with rfl | h4
              · simp [dualK, quantK, arityF, numberB, countK, hb1, hb2, hb3]
              · exact absurd h4 (by decide)
            · rcases h4 with rfl | h4
              · simp [dualK, quantK, arityF, numberB, countK, hb1, hb2, hb3]
              · exact absurd h4 (by decide)
            · simp [dualK, quantK, arityF, numberB, countK, hb1, hb2]; exact ⟨by simpa using hb3, by omega⟩
            · simp [dualK, quantK, arityF, numberB, countK, hb1, hb2]; exact ⟨by simpa using hb3, by omega⟩
        · rw [nodesL, nodesL, List.append_nil]; exact (X _).formed
        · rw [walkF_nil] at hw ⊢
          cases hbd : bindAll a binds with
          | none => rw [hbd] at hw; cases hw
          | some b =>
            rw [hbd] at hw
            simp only [walkL] at hw ⊢
            by_cases h0 : walkF b x = 0
            · rw [(X _).walk b h0]; simp
            · rw [if_pos h0] at hw; exact absurd hw h0
        · rw [holdsF_nil, holdsF_nil]
          have hne : ¬ kind = 1 ∧ ¬ kind = 2 ∧ ¬ kind = 10 ∧ ¬ kind = 11 ∧ ¬ kind = 12 ∧ ¬ kind = 13 := by omega
          rw [if_neg hne.1, if_neg hne.2.1, if_neg hne.2.2.1, if_neg hne.2.2.2.1, if_neg hne.2.2.2.2.1, if_neg hne.2.2.2.2.2]
          cases turn
          · simp only [Bool.false_eq_true, if_false, Bool.false_and]
            rw [if_neg hne.1, if_neg hne.2.1, if_neg hne.2.2.1, if_neg hne.2.2.2.1, if_neg hne.2.2.2.2.1, if_neg hne.2.2.2.2.2]
            simp [holdsAt, (X _).val]
          · simp only [if_true, Bool.true_and]
            have hne2 : ¬ dualK kind = 1 ∧ ¬ dualK kind = 2 ∧ ¬ dualK kind = 10 ∧ ¬ dualK kind = 11 ∧ ¬ dualK kind = 12 ∧ ¬ dualK kind = 13 := by omega
            rw [if_neg hne2.1, if_neg hne2.2.1, if_neg hne2.2.2.1, if_neg hne2.2.2.2.1, if_neg hne2.2.2.2.2.1, if_neg hne2.2.2.2.2.2]
            have hq3 := quant_neg kind n hk (tuplesF (sizesF s binds)) (fun t => holdsF s w (withF env binds t) x) true
            simp only [holdsAt]
            have e5 : (fun t => holdsF s w (withF env binds t) (rightF x (!(countK kind)))) = fun t => if countK kind then holdsF s w (withF env binds t) x else !(holdsF s w (withF env binds t) x) := by
              funext t
              rw [(X _).val]
              cases countK kind <;> simp
            rw [e5, hq3]
            cases quantHolds kind n ((tuplesF (sizesF s binds)).countP (fun t => holdsF s w (withF env binds t) x)) (tuplesF (sizesF s binds)).length <;> rfl

theorem evHolds_zero {s : Schl} {w : List Plc} {env : List Ev} {f : Frm} (h : HoldsOk s w env f) (hs : ∀ sort, schCount s sort ≤ 64) (turn : Bool) : (evHolds s w env (rightF f turn)).2 = 2 ∨ evHolds s w env (rightF f turn) = (holdsF s w env f != turn, 0) := by
  obtain ⟨g1, g2, g3⟩ := right_main s hs f h.formed turn
  rcases evHolds_or h.week h.may g1 (g2 _ h.walk) with ⟨_, _, _, e⟩ | ⟨_, e⟩
  · right; rw [e, g3]
  · left; rw [e]
theorem week_school {s : Schl} {w : List Plc} (h : weekCheck s w = 0) : schCheck s = 0 := by
  unfold weekCheck at h
  split at h
  · exact h
  · rename_i h0; exact Decidable.byContradiction h0
theorem school_few {s : Schl} (h : schCheck s = 0) : s.slots.length ≤ 50 ∧ s.rooms.length ≤ 32 ∧ s.people.length ≤ 64 ∧ s.groups.length ≤ 64 ∧ s.lessons.length ≤ 64 := by
  unfold schCheck at h
  split at h
  · cases h
  split at h
  · cases h
  split at h
  · cases h
  split at h
  · cases h
  split at h
  · cases h
  · omega
theorem school_count {s : Schl} (h : schCheck s = 0) (sort : Int) : schCount s sort ≤ 64 := by
  have := school_few h
  rw [schCount_eq]
  repeat' split
  all_goals omega
/-- EvalNnfEquivalent, of the functions. -/
theorem nnf_law (s : Schl) (w : List Plc) (env : List Ev) (f : Frm) :
    (if (evHolds s w env f).2 ≠ 0 then !(evHolds s w env f).1
     else ((nnfF f).2 == 0 && ((evHolds s w env (nnfF f).1).2 == 2 || ((evHolds s w env (nnfF f).1).2 == 0 && (evHolds s w env f).1 == (evHolds s w env (nnfF f).1).1)))
       && (((nnfF (notFrm f)).2 == 2 || (evHolds s w env (nnfF (notFrm f)).1).2 == 2) || (((nnfF (notFrm f)).2 == 0 && (evHolds s w env (nnfF (notFrm f)).1).2 == 0) && (evHolds s w env f).1 != (evHolds s w env (nnfF (notFrm f)).1).1))) = true := by
  split
  · rename_i h; rw [evHolds_false h]; rfl
  · rename_i h
    have h := evHolds_ok.1 (Decidable.byContradiction h)
    have hs := school_count (week_school h.week)
    have hc : frmCheck f = 0 := frmCheck_zero.2 ⟨h.formed, h.size, h.depth⟩
    have e1 : nnfF f = (rightF f false, 0) := by unfold nnfF; rw [hc]; simp
    rw [e1, evHolds_val h, Bool.and_eq_true]
    constructor
    · rcases evHolds_zero h hs false with e | e
      · simp [e]
      · simp [e]
    · have hn : (nodesF (notFrm f)).all formedF = true := by
        rw [notFrm, nodesF, nodesL, nodesL, List.append_nil, List.all_cons, h.formed, Bool.and_true]; rfl
      rcases frmCheck_two hn with h0 | h0
      · have e2 : nnfF (notFrm f) = (rightF f true, 0) := by
          unfold nnfF; rw [h0]; simp [notFrm, rightF, rightNode, alwaysF, rightL]
        rw [e2]
        rcases evHolds_zero h hs true with e | e
        · simp [e]
        · simp [e]
      · have e2 : (nnfF (notFrm f)).2 = 2 := by unfold nnfF; rw [h0]; simp
        simp [e2]
end Go.Chalk
