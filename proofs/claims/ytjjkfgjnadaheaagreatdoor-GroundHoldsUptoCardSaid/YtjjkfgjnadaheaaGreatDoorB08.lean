/- Joined texts: LawNest, LawNnf, LawAdd. -/
import Derived.Test.YtjjkfgjnadaheaaGreatDoorB07

/- The plain law of nested quantifiers. No program is named here. -/
namespace Go.Chalk
theorem quant_any {α : Type} (n : Int) (l : List α) (p : α -> Bool) : quantHolds 15 n (l.countP p) l.length = l.any p := by
  unfold quantHolds
  rw [if_neg (by decide), if_pos rfl, Bool.eq_iff_iff, decide_eq_true_eq, List.countP_pos_iff, List.any_eq_true]
end Go.Chalk
/- The plain law of negation normal forms. No program is named here. -/
namespace Go.Chalk
def negS (name : Bs) : Bs := if name = [61] then [33, 61] else if name = [33, 61] then [61] else if name = [60] then [62, 61] else if name = [62, 61] then [60] else if name = [60, 61] then [62] else if name = [62] then [60, 61] else []
theorem parts_of {kind : Int} {name : Bs} {n : Int} {terms : List Trm} {binds : List Bnd} {l : List Frm} (h : formedF (.mk kind name n terms binds l) = true) :
    arityF kind = some l.length /\ (terms = [] ∨ atomK kind = true) /\ (binds = [] ∨ quantK kind = true) /\ (n = 0 ∨ countK kind = true) /\ (name = [] ∨ kind = 9) := by
  rw [formedF_mk, Bool.and_eq_true, partsOk_mk] at h
  have h := h.1
  simp only [Bool.and_eq_true, Bool.or_eq_true, beq_iff_eq, List.isEmpty_iff, decide_eq_true_eq] at h
  obtain ⟨⟨⟨⟨h1, h2⟩, h3⟩, h4⟩, h5⟩ := h
  exact ⟨h1, h2, h3, h4, h5⟩
theorem arity_cases {kind : Int} {n : Nat} (h : arityF kind = some n) : (n = 0 /\ (kind = 1 ∨ kind = 2 ∨ kind = 3 ∨ kind = 4 ∨ kind = 5 ∨ kind = 6 ∨ kind = 7 ∨ kind = 8 ∨ kind = 9)) ∨ (n = 1 /\ kind = 10) ∨ (n = 2 /\ (kind = 11 ∨ kind = 12 ∨ kind = 13)) ∨ (n = 1 /\ (kind = 14 ∨ kind = 15 ∨ kind = 16 ∨ kind = 17)) := by
  unfold arityF at h
  split at h
  · cases h
  split at h
  · simp at h; exact .inl ⟨h.symm, by omega⟩
  split at h
  · simp at h; exact .inr (.inl ⟨h.symm, by assumption⟩)
  split at h
  · simp at h; exact .inr (.inr (.inl ⟨h.symm, by omega⟩))
  · simp at h; exact .inr (.inr (.inr ⟨h.symm, by omega⟩))
theorem len_two {α : Type} {l : List α} (h : l.length = 2) : ∃ a b, l = [a, b] := by
  match l, h with
  | [a, b], _ => exact ⟨a, b, rfl⟩
theorem formed_cmp {name : Bs} {n : Int} {terms : List Trm} {binds : List Bnd} {l : List Frm} (h : formedF (.mk 9 name n terms binds l) = true) : cmpL.contains name = true /\ ∃ t u, terms = [t, u] := by
  rw [formedF_mk, Bool.and_eq_true] at h
  have h := h.2
  by_cases hc : cmpL.contains name = false
  · rw [if_pos ⟨rfl, hc⟩] at h; cases h
  rw [if_neg (fun h => hc h.2), if_pos (by decide)] at h
  simp only [Bool.and_eq_true, decide_eq_true_eq] at h
  obtain ⟨t, u, e⟩ := len_two h.1
  exact ⟨by simpa using hc, t, u, e⟩
theorem formed_atom {kind : Int} {name : Bs} {n : Int} {terms : List Trm} {binds : List Bnd} {l : List Frm} (hk : atomK kind = true) (h : formedF (.mk kind name n terms binds l) = true) : ∃ t u, terms = [t, u] := by
  rw [formedF_mk, Bool.and_eq_true] at h
  have h := h.2
  by_cases hc : kind = 9 /\ cmpL.contains name = false
  · rw [if_pos hc] at h; cases h
  rw [if_neg hc, if_pos hk] at h
  simp only [Bool.and_eq_true, decide_eq_true_eq] at h
  exact len_two h.1
theorem formed_quant {kind : Int} {name : Bs} {n : Int} {terms : List Trm} {binds : List Bnd} {l : List Frm} (hk : quantK kind = true) : formedF (.mk kind name n terms binds l) = (partsOk (.mk kind name n terms binds l) && (decide (0 < binds.length) && decide (binds.length <= 6) && binds.all bndOk && numberB n)) := by
  have h9 : kind ≠ 9 := by unfold quantK at hk; simp at hk; omega
  have ha : ¬ (atomK kind = true) := by unfold quantK at hk; unfold atomK; simp at hk ⊢; omega
  rw [formedF_mk, if_neg (fun h => h9 h.1), if_neg ha, if_pos hk]
theorem tuples_length : ∀ l : List Nat, (tuplesF l).length = l.prod
  | [] => rfl
  | k :: r => by
    rw [tuplesF, List.prod_cons, <- tuples_length r]
    generalize tuplesF r = t
    suffices h : ∀ m : List Nat, (m.flatMap (fun i => t.map (i :: ·))).length = m.length * t.length by simpa using h (List.range k)
    intro m
    induction m with
    | nil => simp
    | cons x m ih => rw [List.flatMap_cons, List.length_append, ih, List.length_map, List.length_cons, Nat.add_mul]; omega
theorem node_formed {kind : Int} {name : Bs} {n : Int} {terms : List Trm} {binds : List Bnd} {l : List Frm} : (nodesF (.mk kind name n terms binds l)).all formedF = true ↔ formedF (.mk kind name n terms binds l) = true /\ (nodesL l).all formedF = true := by
  rw [nodesF, List.all_cons, Bool.and_eq_true]
theorem week_school {s : Schl} {w : List Plc} (h : weekCheck s w = 0) : schCheck s = 0 := by
  unfold weekCheck at h
  split at h
  · exact h
  · rename_i h0; exact Decidable.byContradiction h0
end Go.Chalk
/- The plain law of Judge over two lists of rules. No program is named here. -/
namespace Go.Chalk
theorem fold_times_le (B : Nat) : ∀ (l : List Nat) (n : Nat), n <= 1048577 -> l.foldl timesF n <= 1048577
  | [], n, h => h
  | k :: r, n, h => by rw [List.foldl_cons]; exact fold_times_le B r _ (by unfold timesF; omega)
theorem manyF_le (s : Schl) (l : List Bnd) : manyF s l <= 1048577 := fold_times_le 0 _ _ (by omega)
theorem fold_times : ∀ (l : List Nat) (n : Nat), l.foldl timesF n <= 1048576 -> l.foldl timesF n = n * l.prod ∨ (l.prod = 0 /\ l.foldl timesF n = 0)
  | [], n, _ => by simp
  | k :: r, n, h => by
    rw [List.foldl_cons] at h ⊢
    rw [List.prod_cons]
    rcases fold_times r _ h with e | ⟨e1, e2⟩
    · by_cases hm : n * k <= 1048577
      · left; rw [e]; unfold timesF; rw [Nat.min_eq_left hm, Nat.mul_assoc]
      · have ht : timesF n k = 1048577 := by unfold timesF; omega
        by_cases hp : r.prod = 0
        · right; rw [hp]; exact ⟨by simp, by rw [e, hp]; simp⟩
        · exfalso
          rw [e, ht] at h
          have : 1048577 <= 1048577 * r.prod := Nat.le_mul_of_pos_right _ (by omega)
          omega
    · right; exact ⟨by rw [e1]; simp, e2⟩
theorem manyF_tuples {s : Schl} {l : List Bnd} (h : manyF s l <= 1048576) : (tuplesF (sizesF s l)).length = manyF s l := by
  rw [tuples_length]
  unfold manyF at h ⊢
  rcases fold_times _ _ h with e | ⟨e1, e2⟩
  · rw [e]; omega
  · rw [e1, e2]
theorem tuples_mem : ∀ (l : List Nat) (t : List Nat), t ∈ tuplesF l ↔ t.length = l.length /\ ∀ i (h : i < t.length) (h' : i < l.length), t[i] < l[i]
  | [], t => by
    simp only [tuplesF, List.mem_singleton, List.length_nil]
    constructor
    · rintro rfl; simp
    · rintro ⟨h, _⟩; exact List.length_eq_zero_iff.1 h
  | k :: r, t => by
    simp only [tuplesF, List.mem_flatMap, List.mem_range, List.mem_map]
    constructor
    · rintro ⟨i, hi, u, hu, rfl⟩
      obtain ⟨h1, h2⟩ := (tuples_mem r u).1 hu
      refine ⟨by simp [h1], fun j hj hj' => ?_⟩
      cases j with
      | zero => simpa using hi
      | succ j => simpa using h2 j (by simpa using hj) (by simpa using hj')
    · rintro ⟨h1, h2⟩
      cases t with
      | nil => simp at h1
      | cons x u =>
        refine ⟨x, h2 0 (by simp) (by simp), u, (tuples_mem r u).2 ⟨by simpa using h1, fun j hj hj' => ?_⟩, rfl⟩
        exact h2 (j + 1) (by simpa using hj) (by simpa using hj')
end Go.Chalk
