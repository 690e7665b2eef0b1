/- Joined texts: LawAdd, Tuples, LawHold, LawAdd2, Live0. -/
import Derived.Test.YtlfjjokcbeaekaaGreatDoorB08
import Derived.Test.YtlfjjokcbeaekaaGreatDoorB07

/- The plain law of Judge over two lists of rules. No program is named here. -/
namespace Go.Chalk

theorem rulesGo_zero : ∀ (l : List Rul) (met : List Bs) (k : Nat), (rulesGo met l k).2 = 0 ↔ (∀ r ∈ l, typRule r = 0) ∧ (l.map Rul.name).Nodup ∧ ∀ r ∈ l, r.name ∉ met
  | [], met, k => by simp [rulesGo]
  | r :: l, met, k => by
    rw [rulesGo]
    by_cases h1 : typRule r = 0
    · rw [if_neg (by simp [h1])]
      by_cases h2 : r.name ∈ met
      · rw [if_pos (by simpa using h2)]
        constructor
        · intro h; simp at h
        · rintro ⟨_, _, h⟩; exact absurd h2 (h r (by simp))
      · rw [if_neg (by simpa using h2), rulesGo_zero l]
        simp only [List.mem_cons, List.map_cons, List.nodup_cons, List.mem_append, List.mem_map]
        constructor
        · rintro ⟨g1, g2, g3⟩
          exact ⟨fun x hx => by rcases hx with rfl | hx; exact h1; exact g1 x hx, ⟨fun ⟨x, hx, e⟩ => g3 x hx (.inr (by simp [e])), g2⟩, fun x hx => by rcases hx with rfl | hx; exact h2; exact fun hm => g3 x hx (.inl hm)⟩
        · rintro ⟨g1, ⟨g2, g3⟩, g4⟩
          refine ⟨fun x hx => g1 x (.inr hx), g3, fun x hx hm => ?_⟩
          rcases hm with hm | hm
          · exact g4 x (.inr hx) hm
          · simp at hm; exact g2 ⟨x, hx, hm⟩
    · rw [if_pos h1]
      constructor
      · intro h; exact absurd h h1
      · rintro ⟨h, _, _⟩; exact absurd (h r (by simp)) h1
theorem rulesGo_or : ∀ (l : List Rul) (met : List Bs) (k : Nat), (∀ r ∈ l, typRule r = 0) → (rulesGo met l k).2 = 0 ∨ (rulesGo met l k).2 = 82
  | [], met, k, _ => by simp [rulesGo]
  | r :: l, met, k, h => by
    rw [rulesGo, if_neg (by simp [h r (by simp)])]
    split
    · exact .inr rfl
    · exact rulesGo_or l _ _ (fun x hx => h x (by simp [hx]))
theorem great_mono (s : Schl) : ∀ (l : List Rul) {n n' wide wide' : Nat}, n ≤ n' → wide ≤ wide' → greatGo s l n wide = true → greatGo s l n' wide' = true
  | [], n, n', wide, wide', h1, h2, h => by
    rw [greatGo] at h ⊢
    simp only [Bool.or_eq_true, decide_eq_true_eq] at h ⊢
    omega
  | r :: l, n, n', wide, wide', h1, h2, h => by
    rw [greatGo] at h ⊢
    exact great_mono s l (by omega) (by omega) h
theorem great_more (s : Schl) : ∀ (m : List Rul) {n wide : Nat}, 4096 < n ∨ 1048576 < wide → greatGo s m n wide = true
  | [], n, wide, h => by rw [greatGo]; simpa using h
  | r :: l, n, wide, h => by rw [greatGo]; exact great_more s l (by omega)
theorem great_append (s : Schl) : ∀ (l m : List Rul) (n wide : Nat), greatGo s l n wide = true → greatGo s (l ++ m) n wide = true
  | [], m, n, wide, h => by rw [greatGo] at h; simp only [Bool.or_eq_true, decide_eq_true_eq] at h; exact great_more s m h
  | r :: l, m, n, wide, h => by rw [List.cons_append, greatGo]; rw [greatGo] at h; exact great_append s l m _ _ h
theorem great_behind (s : Schl) : ∀ (l m : List Rul) (n wide : Nat), greatGo s m 0 0 = true → greatGo s (l ++ m) n wide = true
  | [], m, n, wide, h => great_mono s m (Nat.zero_le _) (Nat.zero_le _) h
  | r :: l, m, n, wide, h => by rw [List.cons_append, greatGo]; exact great_behind s l m _ _ h
theorem great_no (s : Schl) : ∀ (l : List Rul) (n wide : Nat), greatGo s l n wide = false → n + (l.map (fun r => manyF s r.each)).sum ≤ 4096 ∧ wide ≤ 1048576 ∧ ∀ r ∈ l, timesF (manyF s r.each) (broadF s r.body) ≤ 1048576
  | [], n, wide, h => by rw [greatGo] at h; simp at h; simp; omega
  | r :: l, n, wide, h => by
    rw [greatGo] at h
    obtain ⟨h1, h2, h3⟩ := great_no s l _ _ h
    simp only [List.map_cons, List.sum_cons, List.mem_cons]
    refine ⟨by omega, by omega, fun x hx => ?_⟩
    rcases hx with rfl | hx
    · omega
    · exact h3 x hx
theorem evJudge_e (s : Schl) (w : List Plc) (l : List Rul) : (evJudge s w l).2.2 = (evBroken s w l).2 := rfl
theorem evBroken_ok {s : Schl} {w : List Plc} {l : List Rul} : (evBroken s w l).2 = 0 ↔ weekCheck s w = 0 ∧ (typRules l).2 = 0 ∧ greatGo s l 0 0 = false := by
  unfold evBroken
  split
  · rename_i h; simp [h]
  split
  · rename_i h1 h; simp [h]
  split
  · rename_i h1 h2 h; simp [h]
  · rename_i h1 h2 h
    simp only [Bool.not_eq_true] at h
    exact ⟨fun _ => ⟨Decidable.byContradiction h1, Decidable.byContradiction h2, h⟩, fun _ => rfl⟩
theorem evBroken_val {s : Schl} {w : List Plc} {l : List Rul} (h : (evBroken s w l).2 = 0) : evBroken s w l = (brokenGo s w l 0, 0) := by
  obtain ⟨h1, h2, h3⟩ := evBroken_ok.1 h
  unfold evBroken
  rw [if_neg (by simp [h1]), if_neg (by simp [h2]), if_neg (by simp [h3])]
theorem typRules_zero {l : List Rul} : (typRules l).2 = 0 ↔ (∀ r ∈ l, typRule r = 0) ∧ (l.map Rul.name).Nodup := by
  unfold typRules; rw [rulesGo_zero]; simp
/-- Where one of the lists fails, both together fail. -/
theorem add_err {s : Schl} {w : List Plc} {l m : List Rul} (h : (evJudge s w l).2.2 ≠ 0 ∨ (evJudge s w m).2.2 ≠ 0) : (evJudge s w (l ++ m)).2.2 ≠ 0 := by
  intro h0
  rw [evJudge_e] at h h0
  rw [evJudge_e] at h
  obtain ⟨h1, h2, h3⟩ := evBroken_ok.1 h0
  obtain ⟨g1, g2⟩ := typRules_zero.1 h2
  rw [List.map_append, List.nodup_append] at g2
  rcases h with h | h
  · refine h (evBroken_ok.2 ⟨h1, typRules_zero.2 ⟨fun r hr => g1 r (by simp [hr]), g2.1⟩, ?_⟩)
    cases hg : greatGo s l 0 0
    · rfl
    · rw [great_append s l m 0 0 hg] at h3; cases h3
  · refine h (evBroken_ok.2 ⟨h1, typRules_zero.2 ⟨fun r hr => g1 r (by simp [hr]), g2.2.1⟩, ?_⟩)
    cases hg : greatGo s m 0 0
    · rfl
    · rw [great_behind s l m 0 0 hg] at h3; cases h3
/-- Where both succeed, together a name stands twice or a limit is exceeded. -/
theorem add_twice {s : Schl} {w : List Plc} {l m : List Rul} (h1 : (evJudge s w l).2.2 = 0) (h2 : (evJudge s w m).2.2 = 0) (h : (evJudge s w (l ++ m)).2.2 ≠ 0) : (evJudge s w (l ++ m)).2.2 = 82 ∨ (evJudge s w (l ++ m)).2.2 = 2 := by
  rw [evJudge_e] at h1 h2 h ⊢
  obtain ⟨a1, a2, _⟩ := evBroken_ok.1 h1
  obtain ⟨_, b2, _⟩ := evBroken_ok.1 h2
  have a3 := (typRules_zero.1 a2).1
  have b3 := (typRules_zero.1 b2).1
  have hr := rulesGo_or (l ++ m) [] 0 (fun r hr => by rcases List.mem_append.1 hr with hr | hr; exact a3 r hr; exact b3 r hr)
  have ht : typRules (l ++ m) = rulesGo [] (l ++ m) 0 := rfl
  rw [← ht] at hr
  unfold evBroken at h ⊢
  rw [if_neg (by simp [a1])] at h ⊢
  rcases hr with hr | hr
  · rw [if_neg (by simp [hr])] at h ⊢
    split at h
    · rename_i hg; rw [if_pos hg]; exact .inr rfl
    · exact absurd rfl h
  · rw [if_pos (by rw [hr]; decide)]; exact .inl hr
theorem fold_times_le (B : Nat) : ∀ (l : List Nat) (n : Nat), n ≤ 1048577 → l.foldl timesF n ≤ 1048577
  | [], n, h => h
  | k :: r, n, h => by rw [List.foldl_cons]; exact fold_times_le B r _ (by unfold timesF; omega)
theorem manyF_le (s : Schl) (l : List Bnd) : manyF s l ≤ 1048577 := fold_times_le 0 _ _ (by omega)
theorem fold_times : ∀ (l : List Nat) (n : Nat), l.foldl timesF n ≤ 1048576 → l.foldl timesF n = n * l.prod ∨ (l.prod = 0 ∧ l.foldl timesF n = 0)
  | [], n, _ => by simp
  | k :: r, n, h => by
    rw [List.foldl_cons] at h ⊢
    rw [List.prod_cons]
    rcases fold_times r _ h with e | ⟨e1, e2⟩
    · by_cases hm : n * k ≤ 1048577
      · left; rw [e]; unfold timesF; rw [Nat.min_eq_left hm, Nat.mul_assoc]
      · have ht : timesF n k = 1048577 := by unfold timesF; omega
        by_cases hp : r.prod = 0
        · right; rw [hp]; exact ⟨by simp, by rw [e, hp]; simp⟩
        · exfalso
          rw [e, ht] at h
          have : 1048577 ≤ 1048577 * r.prod := Nat.le_mul_of_pos_right _ (by omega)
          omega
    · right; exact ⟨by rw [e1]; simp, e2⟩
theorem manyF_tuples {s : Schl} {l : List Bnd} (h : manyF s l ≤ 1048576) : (tuplesF (sizesF s l)).length = manyF s l := by
  rw [tuples_length]
  unfold manyF at h ⊢
  rcases fold_times _ _ h with e | ⟨e1, e2⟩
  · rw [e]; omega
  · rw [e1, e2]
/-- The elements of a tuple are below the sizes. -/
theorem tuples_mem : ∀ (l : List Nat) (t : List Nat), t ∈ tuplesF l ↔ t.length = l.length ∧ ∀ i (h : i < t.length) (h' : i < l.length), t[i] < l[i]
  | [], t => by
    simp only [tuplesF, List.mem_singleton, List.length_nil]
    constructor
    · rintro rfl; simp
    · rintro ⟨h, _⟩; exact List.length_eq_zero_iff.1 h
  | k :: r, t => by
    simp only [tuplesF, List.mem_flatMap, List.mem_range, List.mem_map]
    constructor
    · rintro ⟨i, hi, u, hu, rfl⟩
      obtain ⟨h1, h2⟩ := (tuples_mem r u).1 hu
      refine ⟨by simp [h1], fun j hj hj' => ?_⟩
      cases j with
      | zero => simpa using hi
      | succ j => simpa using h2 j (by simpa using hj) (by simpa using hj')
    · rintro ⟨h1, h2⟩
      cases t with
      | nil => simp at h1
      | cons x u =>
        refine ⟨x, h2 0 (by simp) (by simp), u, (tuples_mem r u).2 ⟨by simpa using h1, fun j hj hj' => ?_⟩, rfl⟩
        exact h2 (j + 1) (by simpa using hj) (by simpa using hj')
theorem tuples_nodup : ∀ (l : List Nat), (tuplesF l).Nodup
  | [] => by simp [tuplesF]
  | k :: r => by
    rw [tuplesF, List.nodup_iff_pairwise_ne, List.pairwise_flatMap]
    refine ⟨fun i _ => ?_, ?_⟩
    · rw [List.pairwise_map]
      refine (List.nodup_iff_pairwise_ne.1 (tuples_nodup r)).imp ?_
      intro a b hab e; simp at e; exact hab e
    · refine (List.nodup_iff_pairwise_ne.1 List.nodup_range).imp ?_
      intro a b hab x hx y hy e
      obtain ⟨u, _, rfl⟩ := List.mem_map.1 hx
      obtain ⟨v, _, rfl⟩ := List.mem_map.1 hy
      simp at e; exact hab e.1
theorem evBinds_with (l : List Bnd) (t : List Nat) (h : t.length = l.length) : evBinds (withF [] l t) = l := by
  unfold evBinds withF
  rw [List.nil_append, List.map_map]
  apply List.ext_getElem
  · simp [h]
  · intro i h1 h2
    simp
structure RuleOk (r : Rul) : Prop where
  formed : (nodesF r.body).all formedF = true
  size : r.body.size ≤ 256
  depth : r.body.depth ≤ 24
  may : mayA r.each = true
  walk : walkF r.each r.body = 0
  each : r.each.length ≤ 6
theorem typRule_ok {r : Rul} (h : typRule r = 0) : RuleOk r := by
  unfold typRule at h
  generalize (if r.hard = true then (0 : Int) else 1) = lo at h
  generalize (if r.hard = true then (0 : Int) else 1000) = hi at h
  by_cases h1 : bndOk ⟨r.name, 1⟩ = false ∨ r.weight < lo ∨ hi < r.weight ∨ 6 < r.each.length ∨ r.each.all bndOk = false
  · rw [if_pos h1] at h; cases h
  rw [if_neg h1] at h
  by_cases h2 : frmCheck r.body ≠ 0
  · rw [if_pos h2] at h; exact absurd h h2
  rw [if_neg h2] at h
  by_cases h3 : mayA r.each = false
  · rw [if_pos h3] at h; cases h
  rw [if_neg h3] at h
  obtain ⟨g1, g2, g3⟩ := frmCheck_zero.1 (Decidable.byContradiction h2)
  simp only [not_or] at h1
  exact ⟨g1, g2, g3, by simpa using h3, h, by omega⟩
/-- An instance of a rule can be evaluated. -/
theorem inst_ok {s : Schl} {w : List Plc} {r : Rul} {t : List Nat} (hw : weekCheck s w = 0) (hr : typRule r = 0) (hb : timesF (manyF s r.each) (broadF s r.body) ≤ 1048576) (hm : manyF s r.each ≤ 4096) (ht : t ∈ tuplesF (sizesF s r.each)) : HoldsOk s w (withF [] r.each t) r.body := by
  obtain ⟨g1, g2, g3, g4, g5, g6⟩ := typRule_ok hr
  obtain ⟨t1, t2⟩ := (tuples_mem _ _).1 ht
  have hl : t.length = r.each.length := by rw [t1]; simp [sizesF]
  have hlen := manyF_tuples (s := s) (l := r.each) (by omega)
  have hpos : 0 < (tuplesF (sizesF s r.each)).length := List.length_pos_of_mem ht
  have hbr := broadF_le s r.body
  refine ⟨hw, ?_, g1, g2, g3, by rw [evBinds_with _ _ hl]; exact g5, ?_⟩
  · unfold evMay
    rw [Bool.and_eq_true, evBinds_with _ _ hl, Bool.not_eq_true', List.any_eq_false]
    refine ⟨g4, fun x hx => ?_⟩
    unfold withF at hx
    rw [List.nil_append] at hx
    obtain ⟨⟨b, n⟩, hp, rfl⟩ := List.mem_map.1 hx
    obtain ⟨i, hi, e⟩ := List.mem_iff_getElem.1 hp
    simp only [List.length_zip] at hi
    rw [List.getElem_zip] at e
    simp only [Prod.mk.injEq] at e
    obtain ⟨rfl, rfl⟩ := e
    have := t2 i (by omega) (by simp [sizesF]; omega)
    simp [sizesF] at this
    unfold evOdd
    simp; omega
  · unfold timesF at hb
    by_cases hlt : broadF s r.body ≤ 1048576
    · exact hlt
    · exfalso
      have e : broadF s r.body = 1048577 := by omega
      rw [e] at hb
      have : 1048577 ≤ manyF s r.each * 1048577 := Nat.le_mul_of_pos_left _ (by omega)
      omega
/-- How many instances of a rule are violated. -/
def violF (s : Schl) (w : List Plc) (r : Rul) : Nat := (tuplesF (sizesF s r.each)).countP (fun t => !(holdsF s w (withF [] r.each t) r.body))
theorem broken_append (s : Schl) (w : List Plc) : ∀ (l m : List Rul) (i : Nat), brokenGo s w (l ++ m) i = brokenGo s w l i ++ brokenGo s w m (i + l.length)
  | [], m, i => by simp [brokenGo]
  | r :: l, m, i => by
    rw [List.cons_append, brokenGo, brokenGo, broken_append s w l m, List.append_assoc, List.length_cons]
    congr 3; omega
def hardF (s : Schl) (w : List Plc) (l : List Rul) : Nat := (l.map (fun r => if r.hard then violF s w r else 0)).sum
def costF (s : Schl) (w : List Plc) (l : List Rul) : Int := (l.map (fun r => if r.hard then 0 else (violF s w r : Int) * r.weight)).sum
theorem broken_hard (s : Schl) (w : List Plc) : ∀ (l pre : List Rul), (brokenGo s w l pre.length).countP (fun x => ((pre ++ l)[x.1]?.map Rul.hard).getD false) = hardF s w l
  | [], pre => by simp [brokenGo, hardF]
  | r :: l, pre => by
    have ih := broken_hard s w l (pre ++ [r])
    rw [List.append_assoc, List.singleton_append, List.length_append, List.length_singleton] at ih
    rw [brokenGo, List.countP_append, ih, List.countP_map]
    unfold hardF
    rw [List.map_cons, List.sum_cons]
    congr 1
    have e : ((fun x : Nat × List Nat => ((pre ++ r :: l)[x.1]?.map Rul.hard).getD false) ∘ fun t => (pre.length, t)) = fun _ => r.hard := by
      funext t; simp
    rw [e]
    cases r.hard
    · simp
    · simp [violF, List.countP_eq_length_filter]
theorem broken_cost (s : Schl) (w : List Plc) : ∀ (l pre : List Rul), (((brokenGo s w l pre.length).filter (fun x => !(((pre ++ l)[x.1]?.map Rul.hard).getD false))).map (fun x => ((pre ++ l)[x.1]?.map Rul.weight).getD 0)).sum = costF s w l
  | [], pre => by simp [brokenGo, costF]
  | r :: l, pre => by
    have ih := broken_cost s w l (pre ++ [r])
    rw [List.append_assoc, List.singleton_append, List.length_append, List.length_singleton] at ih
    rw [brokenGo, List.filter_append, List.map_append, List.sum_append, ih]
    unfold costF
    rw [List.map_cons, List.sum_cons]
    congr 1
    rw [List.filter_map, List.map_map]
    have e : ((fun x : Nat × List Nat => !(((pre ++ r :: l)[x.1]?.map Rul.hard).getD false)) ∘ fun t => (pre.length, t)) = fun _ => !r.hard := by
      funext t; simp
    have e2 : ((fun x : Nat × List Nat => ((pre ++ r :: l)[x.1]?.map Rul.weight).getD 0) ∘ fun t => (pre.length, t)) = fun _ => r.weight := by
      funext t; simp
    rw [e, e2]
    cases r.hard
    · simp only [Bool.not_false, Bool.false_eq_true, if_false, violF, List.countP_eq_length_filter]
      generalize (tuplesF (sizesF s r.each)).filter (fun t => !(holdsF s w (withF [] r.each t) r.body)) = u
      rw [List.filter_eq_self.2 (fun _ _ => rfl)]
      induction u with
      | nil => simp
      | cons x u ih => rw [List.map_cons, List.sum_cons, ih, List.length_cons]; rw [Int.natCast_add, Int.add_mul]; omega
    · rw [List.filter_eq_nil_iff.2 (fun _ _ => by simp)]; simp
theorem judge_val {s : Schl} {w : List Plc} {l : List Rul} (h : (evJudge s w l).2.2 = 0) : evJudge s w l = (hardF s w l, costF s w l, 0) := by
  have e := evBroken_val (s := s) (w := w) (l := l) h
  unfold evJudge
  rw [e]
  have h1 := broken_hard s w l []
  have h2 := broken_cost s w l []
  simp only [List.nil_append, List.length_nil] at h1 h2
  simp only [h1, h2]
theorem judge_add {s : Schl} {w : List Plc} {l m : List Rul} (h1 : (evJudge s w l).2.2 = 0) (h2 : (evJudge s w m).2.2 = 0) (h : (evJudge s w (l ++ m)).2.2 = 0) :
    (evJudge s w (l ++ m)).1 = (evJudge s w l).1 + (evJudge s w m).1 ∧ (evJudge s w (l ++ m)).2.1 = (evJudge s w l).2.1 + (evJudge s w m).2.1 := by
  rw [judge_val h1, judge_val h2, judge_val h]
  simp [hardF, costF]
end Go.Chalk

/- The tuples in lexicographic order, by the step from one to the next. No program is named here. -/
namespace Go.Chalk

/-- The tuple behind t. -/
def nextT : List Nat → List Nat → Option (List Nat)
  | k :: ks, x :: xs => match nextT ks xs with
    | some ys => some (x :: ys)
    | none => if x + 1 = k then none else some ((x + 1) :: List.replicate xs.length 0)
  | _, _ => none
theorem flat_get (T : List (List Nat)) : ∀ (l : List Nat) (i j : Nat) (hi : i < l.length) (hj : j < T.length), (l.flatMap (fun i => T.map (i :: ·)))[i * T.length + j]? = some (l[i] :: T[j])
  | x :: l, 0, j, hi, hj => by
    rw [List.flatMap_cons, Nat.zero_mul, Nat.zero_add, List.getElem?_append_left (by simpa using hj)]
    simp [hj]
  | x :: l, i + 1, j, hi, hj => by
    rw [List.flatMap_cons, List.getElem?_append_right (by rw [List.length_map, Nat.add_mul]; omega)]
    have e : (i + 1) * T.length + j - (T.map (x :: ·)).length = i * T.length + j := by rw [List.length_map, Nat.add_mul]; omega
    rw [e, flat_get T l i j (by simpa using hi) hj]
    simp
theorem tuples_get (k : Nat) (r : List Nat) {i j : Nat} (hi : i < k) (hj : j < (tuplesF r).length) : (tuplesF (k :: r))[i * (tuplesF r).length + j]? = some (i :: (tuplesF r)[j]) := by
  rw [tuplesF, flat_get (tuplesF r) (List.range k) i j (by simpa using hi) hj]; simp
theorem tuples_pos : ∀ l : List Nat, (∀ x ∈ l, 0 < x) → 0 < (tuplesF l).length := fun l h => by
  rw [tuples_length]
  induction l with
  | nil => simp
  | cons x r ih => rw [List.prod_cons]; exact Nat.mul_pos (h x (by simp)) (ih (fun y hy => h y (by simp [hy])))
theorem tuples_first : ∀ l : List Nat, (∀ x ∈ l, 0 < x) → (tuplesF l)[0]? = some (List.replicate l.length 0)
  | [], _ => rfl
  | k :: r, h => by
    have h0 := tuples_first r (fun y hy => h y (by simp [hy]))
    have hp := tuples_pos r (fun y hy => h y (by simp [hy]))
    have := tuples_get k r (i := 0) (j := 0) (h k (by simp)) hp
    rw [Nat.zero_mul, Nat.add_zero] at this
    rw [this]
    rw [List.getElem?_eq_getElem hp] at h0
    simp only [Option.some.injEq] at h0
    rw [h0]; rfl
theorem tuples_next : ∀ (l : List Nat), (∀ x ∈ l, 0 < x) → ∀ (j : Nat) (t : List Nat), (tuplesF l)[j]? = some t → (tuplesF l)[j + 1]? = nextT l t
  | [], _, j, t, h => by
    cases j with
    | zero => simp [tuplesF] at h ⊢; subst h; simp [nextT]
    | succ j => simp [tuplesF] at h
  | k :: r, hpos, j, t, h => by
    have hpr : ∀ y ∈ r, 0 < y := fun y hy => hpos y (by simp [hy])
    have hp := tuples_pos r hpr
    have hlen : (tuplesF (k :: r)).length = k * (tuplesF r).length := by rw [tuples_length, List.prod_cons, tuples_length]
    obtain ⟨hj, _⟩ := List.getElem?_eq_some_iff.1 h
    rw [hlen] at hj
    have hm : j % (tuplesF r).length < (tuplesF r).length := Nat.mod_lt _ hp
    have hd : j / (tuplesF r).length < k := Nat.div_lt_of_lt_mul (by rw [Nat.mul_comm]; exact hj)
    have hjj : j / (tuplesF r).length * (tuplesF r).length + j % (tuplesF r).length = j := Nat.div_add_mod' j _
    have hg := tuples_get k r hd hm
    rw [hjj, h] at hg
    simp only [Option.some.injEq] at hg
    subst hg
    have ih := tuples_next r hpr (j % (tuplesF r).length) _ (List.getElem?_eq_getElem hm)
    simp only [nextT]
    rw [← ih]
    by_cases hlast : j % (tuplesF r).length + 1 < (tuplesF r).length
    · have h2 := tuples_get k r hd hlast
      rw [show j / (tuplesF r).length * (tuplesF r).length + (j % (tuplesF r).length + 1) = j + 1 from by omega] at h2
      rw [h2, List.getElem?_eq_getElem hlast]
    · rw [List.getElem?_eq_none (by omega : (tuplesF r).length ≤ j % (tuplesF r).length + 1)]
      simp only
      have hnext : (j / (tuplesF r).length + 1) * (tuplesF r).length = j + 1 := by
        rw [Nat.add_mul]; omega
      by_cases hk : j / (tuplesF r).length + 1 = k
      · rw [if_pos hk, List.getElem?_eq_none]
        rw [hlen, ← hk, hnext]; exact Nat.le_refl _
      · rw [if_neg hk]
        have h2 := tuples_get k r (i := j / (tuplesF r).length + 1) (j := 0) (by omega) hp
        rw [hnext, Nat.add_zero] at h2
        rw [h2]
        have h0 := tuples_first r hpr
        rw [List.getElem?_eq_getElem hp] at h0
        simp only [Option.some.injEq] at h0
        rw [h0]
        have hl : ((tuplesF r)[j % (tuplesF r).length]).length = r.length := ((tuples_mem _ _).1 (List.getElem_mem hm)).1
        rw [hl]
/-- The step, by the last place that can still grow. -/
theorem nextT_none : ∀ (l t : List Nat), l.length = t.length → (∀ p (h : p < l.length) (h' : p < t.length), t[p] + 1 = l[p]) → nextT l t = none
  | [], [], _, _ => rfl
  | k :: ks, x :: xs, hl, h => by
    rw [nextT, nextT_none ks xs (by simpa using hl) (fun p hp hp' => h (p + 1) (by simpa using hp) (by simpa using hp'))]
    simp only
    have h0 : x + 1 = k := h 0 (by simp) (by simp)
    rw [if_pos h0]
theorem nextT_at : ∀ (l t : List Nat) (i : Nat) (hi : i < l.length) (hi' : i < t.length), l.length = t.length → t[i] + 1 ≠ l[i] → (∀ p (h : p < l.length) (h' : p < t.length), i < p → t[p] + 1 = l[p]) → nextT l t = some (t.take i ++ [t[i] + 1] ++ List.replicate (t.length - 1 - i) 0)
  | k :: ks, x :: xs, 0, hi, hi', hl, h0, h => by
    rw [nextT, nextT_none ks xs (by simpa using hl) (fun p hp hp' => h (p + 1) (by simpa using hp) (by simpa using hp') (by omega))]
    simp only
    have h1 : ¬ (x + 1 = k) := h0
    rw [if_neg h1]
    simp
  | k :: ks, x :: xs, i + 1, hi, hi', hl, h0, h => by
    rw [nextT, nextT_at ks xs i (by simpa using hi) (by simpa using hi') (by simpa using hl) h0 (fun p hp hp' hip => h (p + 1) (by simpa using hp) (by simpa using hp') (by omega))]
    simp only [List.take_succ_cons, List.getElem_cons_succ, List.length_cons, List.cons_append]
    congr 3
    congr 1
    omega
end Go.Chalk

/- What can be evaluated: the parts of a formula. No program is named here. -/
namespace Go.Chalk

theorem walkL_all : ∀ (l : List Frm) (a : List Bnd), walkL a l = 0 → ∀ g ∈ l, walkF a g = 0
  | f :: r, a, h, g, hg => by
    rw [walkL] at h
    by_cases h1 : walkF a f ≠ 0
    · rw [if_pos h1] at h; exact absurd h h1
    · rw [if_neg h1] at h
      rcases List.mem_cons.1 hg with rfl | hg
      · exact Decidable.byContradiction h1
      · exact walkL_all r a h g hg
theorem nodesL_all : ∀ (l : List Frm), (nodesL l).all formedF = true → ∀ g ∈ l, (nodesF g).all formedF = true
  | f :: r, h, g, hg => by
    rw [nodesL, List.all_append, Bool.and_eq_true] at h
    rcases List.mem_cons.1 hg with rfl | hg
    · exact h.1
    · exact nodesL_all r h.2 g hg
theorem fsizes_mem : ∀ (l : List Frm) (g : Frm), g ∈ l → g.size ≤ fsizes l ∧ g.depth ≤ fdepths l
  | f :: r, g, hg => by
    rw [fsizes, fdepths]
    rcases List.mem_cons.1 hg with rfl | hg
    · omega
    · have := fsizes_mem r g hg; omega
theorem broadL_base (s : Schl) : ∀ (l : List Frm) (n : Nat), n ≤ 1048577 → n ≤ broadL s l n
  | [], n, _ => by rw [broadL]; exact Nat.le_refl _
  | f :: r, n, h => by
    rw [broadL]
    have := broadL_base s r (min (n + broadF s f) 1048577) (by omega)
    omega
theorem broadL_mem (s : Schl) : ∀ (l : List Frm) (n : Nat) (g : Frm), g ∈ l → broadF s g ≤ broadL s l n
  | f :: r, n, g, hg => by
    rw [broadL]
    rcases List.mem_cons.1 hg with rfl | hg
    · have h1 := broadL_base s r (min (n + broadF s g) 1048577) (by omega)
      have h2 := broadF_le s g
      omega
    · exact broadL_mem s r _ g hg
theorem HoldsOk.inv {s : Schl} {w : List Plc} {env : List Ev} {kind : Int} {name : Bs} {n : Int} {binds : List Bnd} {fl : List Frm} (h : HoldsOk s w env (.mk kind name n [] binds fl)) :
    formedF (.mk kind name n [] binds fl) = true ∧ (nodesL fl).all formedF = true ∧ ∃ bs, bindAll (evBinds env) binds = some bs ∧ walkL bs fl = 0 := by
  have h1 := h.formed
  rw [nodesF, List.all_cons, Bool.and_eq_true] at h1
  refine ⟨h1.1, h1.2, ?_⟩
  have h2 := h.walk
  rw [walkF_nil] at h2
  cases hb : bindAll (evBinds env) binds with
  | none => rw [hb] at h2; cases h2
  | some bs => rw [hb] at h2; exact ⟨bs, rfl, h2⟩
/-- A part of a formula that binds nothing. -/
theorem HoldsOk.kid {s : Schl} {w : List Plc} {env : List Ev} {kind : Int} {name : Bs} {n : Int} {fl : List Frm} (h : HoldsOk s w env (.mk kind name n [] [] fl)) {g : Frm} (hg : g ∈ fl) : HoldsOk s w env g := by
  obtain ⟨h1, h2, bs, h3, h4⟩ := h.inv
  rw [bindAll] at h3
  cases h3
  have hs := h.size
  have hd := h.depth
  have hb := h.broad
  rw [Frm.size] at hs
  rw [Frm.depth] at hd
  have hm := fsizes_mem fl g hg
  rw [broadF] at hb
  have hk := broadL_mem s fl 0 g hg
  have hl := broadF_le s g
  have h1m : manyF s [] = 1 := rfl
  rw [h1m] at hb
  unfold timesF at hb
  exact ⟨h.week, h.may, nodesL_all fl h2 g hg, by omega, by omega, walkL_all fl _ h4 g hg, by omega⟩
theorem with_cons (env : List Ev) (b : Bnd) (r : List Bnd) (i : Nat) (u : List Nat) : withF env (b :: r) (i :: u) = withF (env ++ [⟨b.name, b.sort, (i : Int)⟩]) r u := by
  unfold withF; simp
theorem may_with {s : Schl} : ∀ (binds : List Bnd) (env : List Ev) (t : List Nat) (bs : List Bnd), evMay s env = true → binds.all bndOk = true → bindAll (evBinds env) binds = some bs → t ∈ tuplesF (sizesF s binds) → evMay s (withF env binds t) = true ∧ evBinds (withF env binds t) = bs
  | [], env, t, bs, h, _, hb, _ => by
    rw [bindAll] at hb; cases hb
    have e : withF env [] t = env := by unfold withF; simp
    rw [e]; exact ⟨h, rfl⟩
  | b :: r, env, t, bs, h, hk, hb, ht => by
    rw [List.all_cons, Bool.and_eq_true] at hk
    rw [bindAll] at hb
    split at hb
    · cases hb
    · rename_i hf
      rw [sizesF, List.map_cons, tuplesF, List.mem_flatMap] at ht
      obtain ⟨i, hi, hu⟩ := ht
      obtain ⟨u, hu', rfl⟩ := List.mem_map.1 hu
      rw [with_cons]
      have hm : evMay s (env ++ [⟨b.name, b.sort, (i : Int)⟩]) = true := evMay_snoc h hk.1 (by simpa using hf) (by simp) (by have := List.mem_range.1 hi; simpa using this)
      exact may_with r _ u bs hm hk.2 (by rw [evBinds_snoc]; exact hb) hu'
/-- The part of a quantified formula, for a tuple. -/
theorem HoldsOk.inst {s : Schl} {w : List Plc} {env : List Ev} {kind : Int} {name : Bs} {n : Int} {binds : List Bnd} {g : Frm} (h : HoldsOk s w env (.mk kind name n [] binds [g])) (hk : binds.all bndOk = true) :
    manyF s binds ≤ 1048576 ∧ ∀ t ∈ tuplesF (sizesF s binds), HoldsOk s w (withF env binds t) g := by
  obtain ⟨h1, h2, bs, h3, h4⟩ := h.inv
  have hs := h.size
  have hd := h.depth
  have hb := h.broad
  rw [Frm.size] at hs
  rw [Frm.depth] at hd
  have hm := fsizes_mem [g] g (by simp)
  rw [broadF, broadL, broadL] at hb
  have hl := broadF_le s g
  have hp : 1 ≤ broadF s g := by cases g; rw [broadF]; omega
  have hml := manyF_le s binds
  unfold timesF at hb
  have e0 : min (0 + broadF s g) 1048577 = broadF s g := by omega
  rw [e0] at hb
  have hmany : manyF s binds ≤ 1048576 := by
    have : manyF s binds ≤ broadF s g * manyF s binds := Nat.le_mul_of_pos_left _ (by omega)
    omega
  refine ⟨hmany, fun t ht => ?_⟩
  have hlen := manyF_tuples hmany
  have hpos : 0 < (tuplesF (sizesF s binds)).length := List.length_pos_of_mem ht
  have hbr : broadF s g ≤ 1048576 := by
    have : broadF s g ≤ broadF s g * manyF s binds := Nat.le_mul_of_pos_right _ (by omega)
    omega
  obtain ⟨m1, m2⟩ := may_with binds env t bs h.may hk h3 ht
  exact ⟨h.week, m1, nodesL_all _ h2 g (by simp), by omega, by omega, by rw [m2]; exact walkL_all _ _ h4 g (by simp), hbr⟩
theorem findB_env (env : List Ev) (name : Bs) : findB (evBinds env) name = env.findIdx? (fun x => x.name == name) := by
  unfold findB evBinds; rw [List.findIdx?_map]; rfl
theorem evOf_get {env : List Ev} {name : Bs} {i : Nat} (h : env.findIdx? (fun x => x.name == name) = some i) : ∃ hi : i < env.length, evOf env name = env[i] := by
  rw [List.findIdx?_eq_some_iff_getElem] at h
  obtain ⟨hi, h1, h2⟩ := h
  refine ⟨hi, ?_⟩
  unfold evOf
  have : env.find? (fun x => x.name == name) = some env[i] := by
    rw [List.find?_eq_some_iff_getElem]
    exact ⟨h1, i, hi, rfl, fun j hj => by simpa using h2 j hj⟩
  rw [this]; rfl
/-- A variable that has a sort is bound to an element. -/
theorem term_found {s : Schl} {env : List Ev} {t : Trm} (hm : evMay s env = true) (hk : t.kind ≠ 1) (hs : (sortF (evBinds env) t).2 = 0) :
    (env.findIdx? (fun x => x.name == t.name)).isSome = true ∧ 0 ≤ (evOf env t.name).at_ ∧ (evOf env t.name).at_ < (schCount s (evOf env t.name).sort : Int) ∧ (t.kind = 2 → (sortF (evBinds env) t).1 = (evOf env t.name).sort) ∧ (t.kind ≠ 2 → (takesF t.kind).1 = (evOf env t.name).sort) := by
  unfold sortF at hs ⊢
  rw [if_neg hk] at hs ⊢
  rw [findB_env] at hs ⊢
  cases hf : env.findIdx? (fun x => x.name == t.name) with
  | none => rw [hf] at hs; cases hs
  | some i =>
    rw [hf] at hs
    obtain ⟨hi, he⟩ := evOf_get hf
    have hb : (evBinds env)[i]? = some ⟨env[i].name, env[i].sort⟩ := by simp [evBinds, hi]
    simp only [hb] at hs ⊢
    rw [he]
    unfold evMay at hm
    rw [Bool.and_eq_true, Bool.not_eq_true', List.any_eq_false] at hm
    have ho := hm.2 _ (List.getElem_mem hi)
    unfold evOdd at ho
    simp only [Bool.or_eq_true, decide_eq_true_eq, not_or] at ho
    refine ⟨rfl, by omega, by omega, fun h2 => by rw [if_pos h2], fun h2 => ?_⟩
    rw [if_neg h2] at hs
    split at hs
    · cases hs
    · rename_i h3; exact Decidable.byContradiction h3
end Go.Chalk

/- The violated instances, in their order. No program is named here. -/
namespace Go.Chalk

/-- Is the instance violated. -/
def violB (s : Schl) (w : List Plc) (r : Rul) (t : List Nat) : Bool := !(holdsF s w (withF [] r.each t) r.body)
/-- How many violated instances stand ahead of the k-th tuple of the i-th rule. -/
def aheadN (s : Schl) (w : List Plc) (l : List Rul) (i k : Nat) : Nat :=
  (brokenGo s w (l.take i) 0).length + (match l[i]? with | some r => ((tuplesF (sizesF s r.each)).take k).countP (violB s w r) | none => 0)
theorem broken_split (s : Schl) (w : List Plc) (l : List Rul) (i : Nat) (hi : i < l.length) :
    brokenGo s w l 0 = brokenGo s w (l.take i) 0 ++ (((tuplesF (sizesF s l[i].each)).filter (violB s w l[i])).map (fun t => (i, t)) ++ brokenGo s w (l.drop (i + 1)) (i + 1)) := by
  have e : l = l.take i ++ l[i] :: l.drop (i + 1) := by rw [List.getElem_cons_drop, List.take_append_drop]
  conv => lhs; rw [e]
  rw [broken_append, Nat.zero_add, List.length_take, Nat.min_eq_left (by omega), brokenGo]
  rfl
theorem broken_index (s : Schl) (w : List Plc) : ∀ (l : List Rul) (i : Nat) (x : Nat × List Nat), x ∈ brokenGo s w l i → i ≤ x.1
  | [], i, x, h => by simp [brokenGo] at h
  | r :: l, i, x, h => by
    rw [brokenGo] at h
    rcases List.mem_append.1 h with h | h
    · obtain ⟨t, _, rfl⟩ := List.mem_map.1 h; exact Nat.le_refl _
    · have := broken_index s w l (i + 1) x h; omega
theorem broken_at (s : Schl) (w : List Plc) (l : List Rul) (i k : Nat) (hi : i < l.length) (hk : k < (tuplesF (sizesF s l[i].each)).length) :
    ((brokenGo s w l 0)[aheadN s w l i k]? = some (i, (tuplesF (sizesF s l[i].each))[k])) ↔ violB s w l[i] (tuplesF (sizesF s l[i].each))[k] = true := by
  generalize hT : tuplesF (sizesF s l[i].each) = T at hk ⊢
  have hnd : T.Nodup := hT ▸ tuples_nodup _
  have ha : aheadN s w l i k = (brokenGo s w (l.take i) 0).length + (T.take k).countP (violB s w l[i]) := by
    unfold aheadN; rw [List.getElem?_eq_getElem hi]; simp only [hT]
  rw [ha, broken_split s w l i hi, hT, List.getElem?_append_right (by omega), Nat.add_sub_cancel_left]
  have hsp : T = T.take k ++ T[k] :: T.drop (k + 1) := by rw [List.getElem_cons_drop, List.take_append_drop]
  have hf : T.filter (violB s w l[i]) = (T.take k).filter (violB s w l[i]) ++ (T[k] :: T.drop (k + 1)).filter (violB s w l[i]) := by
    conv => lhs; rw [hsp]
    rw [List.filter_append]
  rw [hf, List.map_append, List.append_assoc, List.countP_eq_length_filter, List.getElem?_append_right (by simp), List.length_map, Nat.sub_self]
  rw [List.filter_cons]
  cases hv : violB s w l[i] T[k]
  · simp only [Bool.false_eq_true, if_false, iff_false]
    intro h
    have hm := List.mem_of_getElem? h
    rcases List.mem_append.1 hm with hm | hm
    · obtain ⟨t, ht, e⟩ := List.mem_map.1 hm
      simp only [Prod.mk.injEq, true_and] at e
      subst e
      have := (List.mem_filter.1 ht).2
      rw [hv] at this; cases this
    · have := broken_index s w _ _ _ hm
      simp only at this; omega
  · simp
theorem ahead_zero (s : Schl) (w : List Plc) (l : List Rul) : aheadN s w l 0 0 = 0 := by
  unfold aheadN
  rw [List.take_zero]
  cases l[0]? <;> simp [brokenGo]
theorem ahead_succ (s : Schl) (w : List Plc) (l : List Rul) (i k : Nat) (hi : i < l.length) (hk : k < (tuplesF (sizesF s l[i].each)).length) :
    aheadN s w l i (k + 1) = aheadN s w l i k + (if violB s w l[i] (tuplesF (sizesF s l[i].each))[k] then 1 else 0) := by
  unfold aheadN
  rw [List.getElem?_eq_getElem hi]
  simp only
  rw [List.take_succ_eq_append_getElem hk, List.countP_append, List.countP_singleton]
  omega
theorem ahead_next (s : Schl) (w : List Plc) (l : List Rul) (i : Nat) (hi : i < l.length) : aheadN s w l (i + 1) 0 = aheadN s w l i (tuplesF (sizesF s l[i].each)).length := by
  unfold aheadN
  rw [List.getElem?_eq_getElem hi, List.take_succ_eq_append_getElem hi, broken_append]
  simp only [List.take_zero, List.countP_nil, List.take_length, List.length_append, Nat.zero_add]
  have e : (brokenGo s w [l[i]] (l.take i).length).length = (tuplesF (sizesF s l[i].each)).countP (violB s w l[i]) := by
    rw [brokenGo, brokenGo, List.append_nil, List.length_map, List.countP_eq_length_filter]; rfl
  rw [e]
  cases l[i + 1]? <;> simp
theorem ahead_end (s : Schl) (w : List Plc) (l : List Rul) : aheadN s w l l.length 0 = (brokenGo s w l 0).length := by
  unfold aheadN
  rw [List.take_length, List.getElem?_eq_none (Nat.le_refl _)]; rfl
end Go.Chalk

/- The example of chapter 9 as data, and what the specification says of it. No program is named here. -/
namespace Go.Chalk
def vT (c : UInt8) : Trm := ⟨2, [c], 0⟩
def exF : Frm := .mk 12 [] 0 [] [] [.mk 9 [61] 0 [vT 108, vT 109] [] [], .mk 15 [] 0 [] [⟨[115], 2⟩] [.mk 11 [] 0 [] [] [.mk 3 [] 0 [vT 108, vT 115] [] [], .mk 10 [] 0 [] [] [.mk 3 [] 0 [vT 109, vT 115] [] []]]]]
def exB : List Bnd := [⟨[108], 1⟩, ⟨[109], 1⟩]
def exA : Frm := .mk 14 [] 0 [] exB [exF]
def exS : Schl := { slots := [⟨[97], 0, 0⟩, ⟨[98], 0, 1⟩], rooms := [⟨[114], 0, 0, []⟩], people := [], groups := [], lessons := [⟨[120], [], []⟩, ⟨[121], [], []⟩] }
def exR : List Rul := [⟨[104], true, 0, exB, exF⟩, ⟨[119], false, 5, exB, exF⟩]
theorem ex_yes : evHolds exS [⟨0, 0⟩, ⟨1, 0⟩] [] exA = (true, 0) := by decide +kernel
theorem ex_no : evHolds exS [⟨1, 0⟩, ⟨1, 0⟩] [] exA = (false, 0) := by decide +kernel
theorem ex_var : evHolds exS [⟨1, 0⟩, ⟨1, 0⟩] [] exF = (false, 81) := by decide +kernel
theorem ex_place : evHolds exS [] [] exA = (false, 40) := by decide +kernel
theorem ex_insts (r : Rul) (h : exR[0]? = some r) : evInsts exS r = ([[0, 0], [0, 1], [1, 0], [1, 1]], 0) := by
  cases h; decide +kernel
theorem ex_broken : evBroken exS [⟨1, 0⟩, ⟨1, 0⟩] exR = ([(0, [0, 1]), (0, [1, 0]), (1, [0, 1]), (1, [1, 0])], 0) := by decide +kernel
theorem ex_judge : evJudge exS [⟨1, 0⟩, ⟨1, 0⟩] exR = (2, 10, 0) := by decide +kernel
end Go.Chalk
