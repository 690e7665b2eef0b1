/- 's.C, s.L = append(s.C, 1), append(s.L, y)' of gate's put: the region draws its order. -/
import Derived.Test.YtpacnaeckbcpjaaDoorSide
import Derived.Test.YtpacnaeckbcpjaaDoorRegion
namespace Go.Proofs.YtpacnaeckbcpjaaDoor
open Go.RowKit Go.Chalk

theorem wpOp_of {P : Program} {ops : Array Oper} {Q : Exit → Act → World → Prop} {i : Nat} {o : Oper} {K : Act → World → Prop} {a : Act} {w : World} (ho : ops[i]? = some o) (hg : o.guard = none) (h : o.wp P a w K Q) : wpOp P ops Q i K a w := by
  unfold wpOp
  rw [ho]
  simp only []
  rw [if_pos (by simp [Region.wanted, hg])]
  exact .inl h
theorem ready_nil {md : Region.Mode} {ops : Array Oper} {listed : Array Bool} {i : Nat} {o : Oper} (hr : Region.ready md ops listed = []) (ho : ops[i]? = some o) (hs : listed.size = ops.size)
    (hd : ∀ e ∈ o.after, Region.binds md e = true → listed.getD e.on false = true) : listed.getD i false = true := by
  unfold Region.ready at hr
  have hi : i < ops.size := (Array.getElem?_eq_some_iff.1 ho).1
  have h := List.filter_eq_nil_iff.1 hr i (by simpa using hi)
  rw [ho] at h
  simp only [Option.map_some, Option.getD_some, Bool.and_eq_true, not_and, Array.all_eq_true', Bool.not_eq_true'] at h
  have hx : listed.getD i true = true := by
    cases hc : listed.getD i true with
    | true => rfl
    | false =>
      exfalso
      refine h hc (fun e he => ?_)
      cases hb : Region.binds md e with
      | false => rfl
      | true => simpa using hd e he hb
  have hi' : i < listed.size := by omega
  simpa [Array.getD, hi'] using hx

/-- Slot t of an act. -/
def slot (a : Act) (t : Nat) : Value := a.tmps.getD t undef
theorem slot_put {a : Act} {d : Nat} {v : Value} {t : Nat} (hd : d < a.tmps.size) : slot (a.put (some d) v) t = if t = d then v else slot a t := by
  unfold slot Act.put
  simp only [Array.getD_eq_getD_getElem?, Array.getElem?_setIfInBounds]
  by_cases h : d = t
  · subst h; simp [hd]
  · rw [if_neg h, if_neg (fun e => h e.symm)]
theorem slot_get (a : Act) (t : Nat) : a.tmps[t]?.getD undef = slot a t := by unfold slot; simp
theorem eval_slot (a : Act) (t : Nat) : a.eval (.tmp t) = slot a t := rfl

/-- What holds of world and frame while the region goes on; L: which operations have come up. -/
structure Reg (a0 : Act) (W0 : World) (A : Nat) (v1 v2 : Value) (r1 r2 : Nat) (c l : List Int) (least y : Int) (L : Nat → Bool) (a : Act) (w : World) (u1 u2 : Value) (s1 s2 t1 t2 : Nat) : Prop where
  sz : a.tmps.size = 49
  df : a.defers = a0.defers
  far : ∀ t, t < 25 ∨ 35 < t → slot a t = slot a0 t
  s25 : L 0 = true → slot a 25 = .pointer (some ⟨A, 0, none⟩)
  s26 : L 1 = true → slot a 26 = v1
  s27 : L 2 = true → slot a 27 = .slice (some ⟨t1, 0, none⟩) 1 1
  s28 : L 3 = true → slot a 28 = u1
  s29 : L 4 = true → slot a 29 = .pointer (some ⟨A, 1, none⟩)
  s30 : L 5 = true → slot a 30 = v2
  s31 : L 6 = true → slot a 31 = .int .i64 y
  s32 : L 7 = true → slot a 32 = .slice (some ⟨t2, 0, none⟩) 1 1
  s33 : L 8 = true → slot a 33 = u2
  s34 : L 9 = true → slot a 34 = .pointer (some ⟨A, 0, none⟩)
  s35 : L 11 = true → slot a 35 = .pointer (some ⟨A, 1, none⟩)
  q1 : L 10 = true → L 1 = true ∧ L 3 = true
  q2 : L 12 = true → L 5 = true ∧ L 8 = true
  e1 : L 3 = false → u1 = v1
  e2 : L 8 = false → u2 = v2
  box : w.heap[A]? = some (.cells #[if L 10 = true then u1 else v1, if L 12 = true then u2 else v2, .int .i64 least] 42 (0, 0))
  o1 : Own w (fun _ => False) 3 1 u1 (some s1) (dints (if L 3 = true then c ++ [1] else c))
  o2 : Own w (fun _ => False) 3 1 u2 (some s2) (dints (if L 8 = true then l ++ [y] else l))
  n12 : s1 ≠ s2
  n1 : s1 ≠ A
  n2 : s2 ≠ A
  mod : Mod (fun k => k = r1 ∨ k = r2 ∨ k = A) W0 w
  f1 : s1 = r1 ∨ W0.heap.size ≤ s1
  f2 : s2 = r2 ∨ W0.heap.size ≤ s2
  b1 : L 2 = true → L 3 = false → w.heap[t1]? = some (.cells #[.int .i64 1] 3 (0, 0)) ∧ t1 ≠ s1 ∧ t1 ≠ s2 ∧ t1 ≠ A
  b2 : L 7 = true → L 8 = false → w.heap[t2]? = some (.cells #[.int .i64 y] 3 (0, 0)) ∧ t2 ≠ s1 ∧ t2 ≠ s2 ∧ t2 ≠ A

def RegInv (a0 : Act) (W0 : World) (A : Nat) (v1 v2 : Value) (r1 r2 : Nat) (c l : List Int) (least y : Int) (listed : Array Bool) (a : Act) (w : World) : Prop :=
  ∃ u1 u2 s1 s2 t1 t2, Reg a0 W0 A v1 v2 r1 r2 c l least y (fun i => listed.getD i false) a w u1 u2 s1 s2 t1 t2

theorem getD_set {listed : Array Bool} {i k : Nat} (hi : i < listed.size) : (listed.setIfInBounds i true).getD k false = if k = i then true else listed.getD k false := by
  simp only [Array.getD_eq_getD_getElem?, Array.getElem?_setIfInBounds]
  by_cases h : i = k
  · subst h; simp [hi]
  · rw [if_neg h, if_neg (fun e => h e.symm)]

variable {a0 a : Act} {W0 w : World} {A : Nat} {v1 v2 u1 u2 : Value} {r1 r2 s1 s2 t1 t2 : Nat} {c l : List Int} {least y : Int} {L : Nat → Bool}

/-- An operation that only computes. -/
theorem Reg.put1 (R : Reg a0 W0 A v1 v2 r1 r2 c l least y L a w u1 u2 s1 s2 t1 t2) {i d : Nat} {v : Value}
    (h : (i = 0 ∧ d = 25 ∧ v = .pointer (some ⟨A, 0, none⟩)) ∨ (i = 1 ∧ d = 26 ∧ v = v1) ∨ (i = 4 ∧ d = 29 ∧ v = .pointer (some ⟨A, 1, none⟩)) ∨ (i = 5 ∧ d = 30 ∧ v = v2) ∨ (i = 6 ∧ d = 31 ∧ v = .int .i64 y) ∨ (i = 9 ∧ d = 34 ∧ v = .pointer (some ⟨A, 0, none⟩)) ∨ (i = 11 ∧ d = 35 ∧ v = .pointer (some ⟨A, 1, none⟩))) :
    Reg a0 W0 A v1 v2 r1 r2 c l least y (fun k => if k = i then true else L k) (a.put (some d) v) w u1 u2 s1 s2 t1 t2 := by
  obtain ⟨sz, df, far, s25, s26, s27, s28, s29, s30, s31, s32, s33, s34, s35, q1, q2, e1, e2, box, o1, o2, n12, n1, n2, mod, f1, f2, b1, b2⟩ := R
  have hd : d < a.tmps.size := by rw [sz]; omega
  have hp : ∀ t, slot (a.put (some d) v) t = if t = d then v else slot a t := fun t => slot_put hd
  refine ⟨by simp [Act.put, sz], df, fun t ht => by rw [hp, if_neg (by omega)]; exact far t ht, ?_, ?_, ?_, ?_, ?_, ?_, ?_, ?_, ?_, ?_, ?_, ?_, ?_, ?_, ?_, ?_, ?_, ?_, n12, n1, n2, mod, f1, f2, ?_, ?_⟩
  all_goals (clear sz df far n12 n1 n2 mod f1 f2)
  all_goals (rcases h with ⟨rfl, rfl, rfl⟩ | ⟨rfl, rfl, rfl⟩ | ⟨rfl, rfl, rfl⟩ | ⟨rfl, rfl, rfl⟩ | ⟨rfl, rfl, rfl⟩ | ⟨rfl, rfl, rfl⟩ | ⟨rfl, rfl, rfl⟩)
  all_goals ((try simp only [hp]); (try simp); (try first | assumption | exact fun h => (q1 h).2 | exact fun h => (q2 h).2))

/-- The element of the first append is laid. -/
theorem Reg.build1 (R : Reg a0 W0 A v1 v2 r1 r2 c l least y L a w u1 u2 s1 s2 t1 t2) :
    Reg a0 W0 A v1 v2 r1 r2 c l least y (fun k => if k = 2 then true else L k) (a.put (some 27) (.slice (some ⟨w.heap.size, 0, none⟩) 1 1)) (w.alloc (.cells #[.int .i64 1] 3)) u1 u2 s1 s2 w.heap.size t2 := by
  obtain ⟨sz, df, far, s25, s26, s27, s28, s29, s30, s31, s32, s33, s34, s35, q1, q2, e1, e2, box, o1, o2, n12, n1, n2, mod, f1, f2, b1, b2⟩ := R
  have hd : 27 < a.tmps.size := by rw [sz]; omega
  have hp : ∀ t, slot (a.put (some 27) (.slice (some ⟨w.heap.size, 0, none⟩) 1 1)) t = if t = 27 then .slice (some ⟨w.heap.size, 0, none⟩) 1 1 else slot a t := fun t => slot_put hd
  have h1 := o1.row_lt rfl
  have h2 := o2.row_lt rfl
  have hA := (Array.getElem?_eq_some_iff.1 box).1
  refine ⟨by simp [Act.put, sz], df, fun t ht => by rw [hp, if_neg (by omega)]; exact far t ht, ?_, ?_, ?_, ?_, ?_, ?_, ?_, ?_, ?_, ?_, ?_, ?_, ?_, ?_, ?_, ?_, ?_, ?_, n12, n1, n2, mod.alloc _, f1, f2, ?_, ?_⟩
  case refine_16 => exact (Below.heap_alloc _ _ _ hA).trans (by simpa using box)
  case refine_17 => exact (by simpa using o1.alloc _)
  case refine_18 => exact (by simpa using o2.alloc _)
  case refine_19 => exact fun _ _ => ⟨by rw [heap_alloc_get', if_pos rfl], by omega, by omega, by omega⟩
  case refine_20 =>
    intro h h'
    obtain ⟨g1, g2⟩ := b2 (by simpa using h) (by simpa using h')
    exact ⟨(Below.heap_alloc _ _ _ (Array.getElem?_eq_some_iff.1 g1).1).trans g1, g2⟩
  all_goals (clear sz df far n12 n1 n2 mod f1 f2)
  all_goals ((try simp only [hp]); (try simp); (try first | assumption | exact fun h => (q1 h).2 | exact fun h => (q2 h).2))
/-- The element of the second append is laid. -/
theorem Reg.build2 (R : Reg a0 W0 A v1 v2 r1 r2 c l least y L a w u1 u2 s1 s2 t1 t2) :
    Reg a0 W0 A v1 v2 r1 r2 c l least y (fun k => if k = 7 then true else L k) (a.put (some 32) (.slice (some ⟨w.heap.size, 0, none⟩) 1 1)) (w.alloc (.cells #[.int .i64 y] 3)) u1 u2 s1 s2 t1 w.heap.size := by
  obtain ⟨sz, df, far, s25, s26, s27, s28, s29, s30, s31, s32, s33, s34, s35, q1, q2, e1, e2, box, o1, o2, n12, n1, n2, mod, f1, f2, b1, b2⟩ := R
  have hd : 32 < a.tmps.size := by rw [sz]; omega
  have hp : ∀ t, slot (a.put (some 32) (.slice (some ⟨w.heap.size, 0, none⟩) 1 1)) t = if t = 32 then .slice (some ⟨w.heap.size, 0, none⟩) 1 1 else slot a t := fun t => slot_put hd
  have h1 := o1.row_lt rfl
  have h2 := o2.row_lt rfl
  have hA := (Array.getElem?_eq_some_iff.1 box).1
  refine ⟨by simp [Act.put, sz], df, fun t ht => by rw [hp, if_neg (by omega)]; exact far t ht, ?_, ?_, ?_, ?_, ?_, ?_, ?_, ?_, ?_, ?_, ?_, ?_, ?_, ?_, ?_, ?_, ?_, ?_, n12, n1, n2, mod.alloc _, f1, f2, ?_, ?_⟩
  case refine_16 => exact (Below.heap_alloc _ _ _ hA).trans (by simpa using box)
  case refine_17 => exact (by simpa using o1.alloc _)
  case refine_18 => exact (by simpa using o2.alloc _)
  case refine_20 => exact fun _ _ => ⟨by rw [heap_alloc_get', if_pos rfl], by omega, by omega, by omega⟩
  case refine_19 =>
    intro h h'
    obtain ⟨g1, g2⟩ := b1 (by simpa using h) (by simpa using h')
    exact ⟨(Below.heap_alloc _ _ _ (Array.getElem?_eq_some_iff.1 g1).1).trans g1, g2⟩
  all_goals (clear sz df far n12 n1 n2 mod f1 f2)
  all_goals ((try simp only [hp]); (try simp); (try first | assumption | exact fun h => (q1 h).2 | exact fun h => (q2 h).2))

/-- The first append. -/
theorem Reg.app1 {w1 : World} {g cap : Nat} (R : Reg a0 W0 A v1 v2 r1 r2 c l least y L a w u1 u2 s1 s2 t1 t2) (h3 : L 3 = false) (hA0 : A < W0.heap.size)
    (ho : w1.ownsRow 0 3 1 (.slice (some ⟨g, 0, none⟩) (c.length + 1) cap) (c.length + 1) (c.map (Value.int .i64) ++ [.int .i64 1])) (hg : w.grownBy w1 u1.ownBlock) (hat : u1.ownBlock = some g ∨ g = w.heap.size) :
    Reg a0 W0 A v1 v2 r1 r2 c l least y (fun k => if k = 3 then true else L k) (a.put (some 28) (.slice (some ⟨g, 0, none⟩) (c.length + 1) cap)) w1 (.slice (some ⟨g, 0, none⟩) (c.length + 1) cap) u2 g s2 t1 t2 := by
  obtain ⟨sz, df, far, s25, s26, s27, s28, s29, s30, s31, s32, s33, s34, s35, q1, q2, e1, e2, box, o1, o2, n12, n1, n2, mod, f1, f2, b1, b2⟩ := R
  have hd : 28 < a.tmps.size := by rw [sz]; omega
  have hp : ∀ t, slot (a.put (some 28) (.slice (some ⟨g, 0, none⟩) (c.length + 1) cap)) t = if t = 28 then .slice (some ⟨g, 0, none⟩) (c.length + 1) cap else slot a t := fun t => slot_put hd
  have h10 : L 10 = false := by cases h : L 10; rfl; have := (q1 h).2; rw [h3] at this; cases this
  rw [h3] at o1
  obtain ⟨g1, g2, g3⟩ := Own.int_appended (by simpa using o1) (ys := [1]) (fun x hx => by simp at hx; subst hx; omega) (by simpa using ho) hg (by rcases hat with h | h; exact .inl h.symm; exact .inr (by rw [h]; rfl))
  have hm : Mod (fun k => k = s1) w w1 := g2.mono (fun k hk => by simpa using hk.symm)
  have hs1 := o1.row_lt rfl
  have hs2 := o2.row_lt rfl
  have hA := (Array.getElem?_eq_some_iff.1 box).1
  have hsz := mod.size
  have hg' : g = s1 ∨ g = w.heap.size := by
    rcases hat with e | e
    · rw [o1.row] at e; simp at e; exact .inl e.symm
    · exact .inr e
  refine ⟨by simp [Act.put, sz], df, fun t ht => by rw [hp, if_neg (by omega)]; exact far t ht, ?_, ?_, ?_, ?_, ?_, ?_, ?_, ?_, ?_, ?_, ?_, ?_, ?_, ?_, ?_, ?_, ?_, ?_, by omega, by omega, n2, mod.trans hm (fun i hi e => ?_), by omega, f2, ?_, ?_⟩
  case refine_16 => refine (hm.block A hA (fun e => n1 e.symm)).trans ?_; rw [box]; simp [h10]
  case refine_17 => exact (by simpa [Value.ownBlock] using g1)
  case refine_18 => exact (by simpa using o2.kept hm (fun _ e => e.elim) (fun k hk => by cases hk; omega))
  case refine_19 => rcases f1 with e' | e'; exact .inl (by omega); omega
  case refine_20 => intro _ h'; simp at h'
  case refine_21 =>
    intro h h'
    obtain ⟨g1, g2, g3, g4⟩ := b2 (by simpa using h) (by simpa using h')
    have hlt := (Array.getElem?_eq_some_iff.1 g1).1
    exact ⟨(hm.block t2 hlt (by omega)).trans g1, by omega, g3, g4⟩
  all_goals (clear sz df far n12 n1 n2 mod f1 f2)
  all_goals ((try simp only [hp]); (try simp); (try first | assumption | exact fun h => (q1 h).1 | exact fun h => (q2 h).2))
/-- The second append. -/
theorem Reg.app2 {w1 : World} {g cap : Nat} (R : Reg a0 W0 A v1 v2 r1 r2 c l least y L a w u1 u2 s1 s2 t1 t2) (h3 : L 8 = false) (hA0 : A < W0.heap.size) (hy : -9223372036854775808 ≤ y ∧ y ≤ 9223372036854775807)
    (ho : w1.ownsRow 0 3 1 (.slice (some ⟨g, 0, none⟩) (l.length + 1) cap) (l.length + 1) (l.map (Value.int .i64) ++ [.int .i64 y])) (hg : w.grownBy w1 u2.ownBlock) (hat : u2.ownBlock = some g ∨ g = w.heap.size) :
    Reg a0 W0 A v1 v2 r1 r2 c l least y (fun k => if k = 8 then true else L k) (a.put (some 33) (.slice (some ⟨g, 0, none⟩) (l.length + 1) cap)) w1 u1 (.slice (some ⟨g, 0, none⟩) (l.length + 1) cap) s1 g t1 t2 := by
  obtain ⟨sz, df, far, s25, s26, s27, s28, s29, s30, s31, s32, s33, s34, s35, q1, q2, e1, e2, box, o1, o2, n12, n1, n2, mod, f1, f2, b1, b2⟩ := R
  have hd : 33 < a.tmps.size := by rw [sz]; omega
  have hp : ∀ t, slot (a.put (some 33) (.slice (some ⟨g, 0, none⟩) (l.length + 1) cap)) t = if t = 33 then .slice (some ⟨g, 0, none⟩) (l.length + 1) cap else slot a t := fun t => slot_put hd
  have h10 : L 12 = false := by cases h : L 12; rfl; have := (q2 h).2; rw [h3] at this; cases this
  rw [h3] at o2
  obtain ⟨g1, g2, g3⟩ := Own.int_appended (by simpa using o2) (ys := [y]) (fun x hx => by simp at hx; subst hx; omega) (by simpa using ho) hg (by rcases hat with h | h; exact .inl h.symm; exact .inr (by rw [h]; rfl))
  have hm : Mod (fun k => k = s2) w w1 := g2.mono (fun k hk => by simpa using hk.symm)
  have hs1 := o1.row_lt rfl
  have hs2 := o2.row_lt rfl
  have hA := (Array.getElem?_eq_some_iff.1 box).1
  have hsz := mod.size
  have hg' : g = s2 ∨ g = w.heap.size := by
    rcases hat with e | e
    · rw [o2.row] at e; simp at e; exact .inl e.symm
    · exact .inr e
  refine ⟨by simp [Act.put, sz], df, fun t ht => by rw [hp, if_neg (by omega)]; exact far t ht, ?_, ?_, ?_, ?_, ?_, ?_, ?_, ?_, ?_, ?_, ?_, ?_, ?_, ?_, ?_, ?_, ?_, ?_, by omega, n1, by omega, mod.trans hm (fun i hi e => ?_), f1, by omega, ?_, ?_⟩
  case refine_16 => refine (hm.block A hA (fun e => n2 e.symm)).trans ?_; rw [box]; simp [h10]
  case refine_18 => exact (by simpa [Value.ownBlock] using g1)
  case refine_17 => exact (by simpa using o1.kept hm (fun _ e => e.elim) (fun k hk => by cases hk; omega))
  case refine_19 => rcases f2 with e' | e'; exact .inr (.inl (by omega)); omega
  case refine_21 => intro _ h'; simp at h'
  case refine_20 =>
    intro h h'
    obtain ⟨g1, g2, g3, g4⟩ := b1 (by simpa using h) (by simpa using h')
    have hlt := (Array.getElem?_eq_some_iff.1 g1).1
    exact ⟨(hm.block t1 hlt (by omega)).trans g1, g2, by omega, g4⟩
  all_goals (clear sz df far n12 n1 n2 mod f1 f2)
  all_goals ((try simp only [hp]); (try simp); (try first | assumption | exact fun h => (q1 h).2 | exact fun h => (q2 h).1))

/-- The first store. -/
theorem Reg.store1 (R : Reg a0 W0 A v1 v2 r1 r2 c l least y L a w u1 u2 s1 s2 t1 t2) (h1 : L 1 = true) (h3 : L 3 = true) :
    Reg a0 W0 A v1 v2 r1 r2 c l least y (fun k => if k = 10 then true else L k) a (w.setCell ⟨A, 0, none⟩ u1) u1 u2 s1 s2 t1 t2 := by
  obtain ⟨sz, df, far, s25, s26, s27, s28, s29, s30, s31, s32, s33, s34, s35, q1, q2, e1, e2, box, o1, o2, n12, n1, n2, mod, f1, f2, b1, b2⟩ := R
  refine ⟨sz, df, far, ?_, ?_, ?_, ?_, ?_, ?_, ?_, ?_, ?_, ?_, ?_, ?_, ?_, ?_, ?_, ?_, ?_, ?_, n12, n1, n2, mod.setCell (p := ⟨A, 0, none⟩) (fun _ => .inr (.inr rfl)) _, f1, f2, ?_, ?_⟩
  case refine_16 => rw [box_store _ box]; simp
  case refine_17 => exact (by simpa using o1.store _ id (by simpa using n1))
  case refine_18 => exact (by simpa using o2.store _ id (by simpa using n2))
  case refine_19 => intro _ h'; simp [h3] at h'
  case refine_20 =>
    intro h h'
    obtain ⟨g1, g2, g3, g4⟩ := b2 (by simpa using h) (by simpa using h')
    exact ⟨(Below.heap_setCell _ _ _ _ g4).trans g1, g2, g3, g4⟩
  all_goals (clear sz df far n12 n1 n2 mod f1 f2)
  all_goals ((try simp); (try first | assumption | exact fun h => (q1 h).2 | exact fun h => (q2 h).1 | exact ⟨h1, h3⟩))
/-- The second store. -/
theorem Reg.store2 (R : Reg a0 W0 A v1 v2 r1 r2 c l least y L a w u1 u2 s1 s2 t1 t2) (h1 : L 5 = true) (h3 : L 8 = true) :
    Reg a0 W0 A v1 v2 r1 r2 c l least y (fun k => if k = 12 then true else L k) a (w.setCell ⟨A, 1, none⟩ u2) u1 u2 s1 s2 t1 t2 := by
  obtain ⟨sz, df, far, s25, s26, s27, s28, s29, s30, s31, s32, s33, s34, s35, q1, q2, e1, e2, box, o1, o2, n12, n1, n2, mod, f1, f2, b1, b2⟩ := R
  refine ⟨sz, df, far, ?_, ?_, ?_, ?_, ?_, ?_, ?_, ?_, ?_, ?_, ?_, ?_, ?_, ?_, ?_, ?_, ?_, ?_, n12, n1, n2, mod.setCell (p := ⟨A, 1, none⟩) (fun _ => .inr (.inr rfl)) _, f1, f2, ?_, ?_⟩
  case refine_16 => rw [box_store _ box]; simp
  case refine_17 => exact (by simpa using o1.store _ id (by simpa using n1))
  case refine_18 => exact (by simpa using o2.store _ id (by simpa using n2))
  case refine_20 => intro _ h'; simp [h3] at h'
  case refine_19 =>
    intro h h'
    obtain ⟨g1, g2, g3, g4⟩ := b1 (by simpa using h) (by simpa using h')
    exact ⟨(Below.heap_setCell _ _ _ _ g4).trans g1, g2, g3, g4⟩
  all_goals (clear sz df far n12 n1 n2 mod f1 f2)
  all_goals ((try simp); (try first | assumption | exact fun h => (q1 h).2 | exact fun h => (q2 h).1 | exact ⟨h1, h3⟩))

theorem slot_far (R : Reg a0 W0 A v1 v2 r1 r2 c l least y L a w u1 u2 s1 s2 t1 t2) (t : Nat) (ht : t < 25 ∨ 35 < t) : a.eval (.tmp t) = slot a0 t := R.far t ht
theorem inv_of {listed : Array Bool} {i : Nat} (hi : i < listed.size) (R : Reg a0 W0 A v1 v2 r1 r2 c l least y (fun k => if k = i then true else listed.getD k false) a w u1 u2 s1 s2 t1 t2) : RegInv a0 W0 A v1 v2 r1 r2 c l least y (listed.setIfInBounds i true) a w := by
  refine ⟨u1, u2, s1, s2, t1, t2, ?_⟩
  have e : (fun k => (listed.setIfInBounds i true).getD k false) = (fun k => if k = i then true else listed.getD k false) := funext fun k => getD_set hi
  rw [e]; exact R

theorem slot_some {a : Act} {t : Nat} (h : t < a.tmps.size) : a.tmps[t]? = some (slot a t) := by
  unfold slot; simp [h]
theorem act_ext {a : Act} {ts : Array Value} {ds : List Deferred} (h : a.tmps = ts) (h2 : a.defers = ds) : a = ⟨ts, ds⟩ := by subst h; subst h2; rfl
theorem frame_eq (hsz : a.tmps.size = 49) (hsz0 : a0.tmps.size = 49) (hdf : a.defers = a0.defers) (far : ∀ t, t < 25 ∨ 35 < t → slot a t = slot a0 t) :
    a = ⟨(((((((((((a0.tmps.setIfInBounds 25 (slot a 25)).setIfInBounds 26 (slot a 26)).setIfInBounds 27 (slot a 27)).setIfInBounds 28 (slot a 28)).setIfInBounds 29 (slot a 29)).setIfInBounds 30 (slot a 30)).setIfInBounds 31 (slot a 31)).setIfInBounds 32 (slot a 32)).setIfInBounds 33 (slot a 33)).setIfInBounds 34 (slot a 34)).setIfInBounds 35 (slot a 35)), a0.defers⟩ := by
  have key : a.tmps = (((((((((((a0.tmps.setIfInBounds 25 (slot a 25)).setIfInBounds 26 (slot a 26)).setIfInBounds 27 (slot a 27)).setIfInBounds 28 (slot a 28)).setIfInBounds 29 (slot a 29)).setIfInBounds 30 (slot a 30)).setIfInBounds 31 (slot a 31)).setIfInBounds 32 (slot a 32)).setIfInBounds 33 (slot a 33)).setIfInBounds 34 (slot a 34)).setIfInBounds 35 (slot a 35)) := by
    apply Array.ext_getElem?
    intro t
    by_cases hlt : t < 49
    · rw [slot_some (by omega)]
      simp only [Array.getElem?_setIfInBounds, Array.size_setIfInBounds, hsz0]
      by_cases hf : t < 25 ∨ 35 < t
      · rw [if_neg (by omega)]; rw [if_neg (by omega)]; rw [if_neg (by omega)]; rw [if_neg (by omega)]; rw [if_neg (by omega)]; rw [if_neg (by omega)]; rw [if_neg (by omega)]; rw [if_neg (by omega)]; rw [if_neg (by omega)]; rw [if_neg (by omega)]; rw [if_neg (by omega)];
        rw [slot_some (by omega), far t hf]
      · have hcs : t = 25 ∨ t = 26 ∨ t = 27 ∨ t = 28 ∨ t = 29 ∨ t = 30 ∨ t = 31 ∨ t = 32 ∨ t = 33 ∨ t = 34 ∨ t = 35 := by omega
        rcases hcs with rfl | rfl | rfl | rfl | rfl | rfl | rfl | rfl | rfl | rfl | rfl <;> simp
    · simp only [Array.getElem?_setIfInBounds, Array.size_setIfInBounds, hsz0]
      rw [if_neg (by omega)]; rw [if_neg (by omega)]; rw [if_neg (by omega)]; rw [if_neg (by omega)]; rw [if_neg (by omega)]; rw [if_neg (by omega)]; rw [if_neg (by omega)]; rw [if_neg (by omega)]; rw [if_neg (by omega)]; rw [if_neg (by omega)]; rw [if_neg (by omega)];
      rw [Array.getElem?_eq_none (by omega), Array.getElem?_eq_none (by omega)]
  exact act_ext key hdf

set_option maxHeartbeats 1000000 in
theorem two_region {id : Nat} {ops : Array Oper} {Q : Exit → Act → World → Prop} (hops : ops.size = 13)
    (p0 : ∃ p, ops[0]? = some ⟨some 25, .fieldAddr 42 (.tmp 10) 0, 0, p, #[], none⟩)
    (p1 : ∃ p, ops[1]? = some ⟨some 26, .load 40 (.tmp 25), 40, p, #[⟨0, .data⟩], none⟩)
    (p2 : ∃ p, ops[2]? = some ⟨some 27, .buildSlice 40 1 #[(0, .const (.int .i64 1))], 40, p, #[], none⟩)
    (p3 : ∃ p, ops[3]? = some ⟨some 28, .call { callee := .builtin .append, args := #[.tmp 26, .tmp 27], argTypes := #[40, 40] }, 40, p, #[⟨1, .data⟩, ⟨2, .data⟩], none⟩)
    (p4 : ∃ p, ops[4]? = some ⟨some 29, .fieldAddr 42 (.tmp 10) 1, 0, p, #[], none⟩)
    (p5 : ∃ p, ops[5]? = some ⟨some 30, .load 40 (.tmp 29), 40, p, #[⟨4, .data⟩], none⟩)
    (p6 : ∃ p, ops[6]? = some ⟨some 31, .move (.tmp 12), 3, p, #[], none⟩)
    (p7 : ∃ p, ops[7]? = some ⟨some 32, .buildSlice 40 1 #[(0, .tmp 31)], 40, p, #[⟨6, .data⟩], none⟩)
    (p8 : ∃ p, ops[8]? = some ⟨some 33, .call { callee := .builtin .append, args := #[.tmp 30, .tmp 32], argTypes := #[40, 40] }, 40, p, #[⟨5, .data⟩, ⟨7, .data⟩, ⟨3, .chain⟩], none⟩)
    (p9 : ∃ p, ops[9]? = some ⟨some 34, .fieldAddr 42 (.tmp 10) 0, 0, p, #[⟨0, .phase⟩, ⟨1, .phase⟩, ⟨2, .phase⟩, ⟨3, .phase⟩, ⟨4, .phase⟩, ⟨5, .phase⟩, ⟨6, .textOnly .lateStores⟩, ⟨7, .textOnly .lateStores⟩, ⟨8, .textOnly .lateStoresUnsure⟩], none⟩)
    (p10 : ∃ p, ops[10]? = some ⟨none, .store 40 (.tmp 34) (.tmp 28), 0, p, #[⟨9, .data⟩, ⟨3, .data⟩, ⟨8, .chain⟩, ⟨0, .phase⟩, ⟨1, .phase⟩, ⟨2, .phase⟩, ⟨3, .phase⟩, ⟨4, .phase⟩, ⟨5, .phase⟩, ⟨6, .textOnly .lateStores⟩, ⟨7, .textOnly .lateStores⟩, ⟨8, .textOnly .lateStoresUnsure⟩], none⟩)
    (p11 : ∃ p, ops[11]? = some ⟨some 35, .fieldAddr 42 (.tmp 10) 1, 0, p, #[⟨0, .phase⟩, ⟨1, .phase⟩, ⟨2, .phase⟩, ⟨3, .phase⟩, ⟨4, .phase⟩, ⟨5, .phase⟩, ⟨6, .phase⟩, ⟨7, .phase⟩, ⟨8, .phase⟩, ⟨9, .phase⟩, ⟨10, .phase⟩], none⟩)
    (p12 : ∃ p, ops[12]? = some ⟨none, .store 40 (.tmp 35) (.tmp 33), 0, p, #[⟨11, .data⟩, ⟨8, .data⟩, ⟨10, .chain⟩, ⟨0, .phase⟩, ⟨1, .phase⟩, ⟨2, .phase⟩, ⟨3, .phase⟩, ⟨4, .phase⟩, ⟨5, .phase⟩, ⟨6, .phase⟩, ⟨7, .phase⟩, ⟨8, .phase⟩, ⟨9, .phase⟩, ⟨10, .phase⟩], none⟩)
    (hsz : a0.tmps.size = 49) (h10 : slot a0 10 = .pointer (some ⟨A, 0, none⟩)) (h12 : slot a0 12 = .int .i64 y) (hy : -9223372036854775808 ≤ y ∧ y ≤ 9223372036854775807)
    (H : LinBox W0 A 42 3 v1 v2 r1 r2 c l least) (hc : c.length ≤ 1000001) (hl : l.length ≤ 1000001)
    (fin : ∀ (x25 x26 x27 x28 x29 x30 x31 x32 x33 x34 x35 : Value) w u1 u2 s1 s2, LinBox w A 42 3 u1 u2 s1 s2 (c ++ [1]) (l ++ [y]) least → Mod (fun k => k = r1 ∨ k = r2 ∨ k = A) W0 w → (s1 = r1 ∨ W0.heap.size ≤ s1) → (s2 = r2 ∨ W0.heap.size ≤ s2) → Q .normal ⟨(((((((((((a0.tmps.setIfInBounds 25 x25).setIfInBounds 26 x26).setIfInBounds 27 x27).setIfInBounds 28 x28).setIfInBounds 29 x29).setIfInBounds 30 x30).setIfInBounds 31 x31).setIfInBounds 32 x32).setIfInBounds 33 x33).setIfInBounds 34 x34).setIfInBounds 35 x35), a0.defers⟩ w) :
    (Code.region id ops true).wp Tryd.prog Q a0 W0 := by
  obtain ⟨i0, hi, hz0, hz1, hz2⟩ := info_parts sums_info
  have hA0 := H.lt.1
  refine region_inv (by kernel_rfl) (RegInv a0 W0 A v1 v2 r1 r2 c l least y) ?_ ?_ ?_
  · refine ⟨v1, v2, r1, r2, 0, 0, ?_⟩
    have e : (fun k => (Array.replicate ops.size false).getD k false) = fun _ => false := funext fun k => by
      simp only [Array.getD_eq_getD_getElem?, Array.getElem?_replicate]; split <;> rfl
    rw [e]
    have hb : Below W0.heap.size W0 W0.drew := ⟨rfl, rfl, rfl, Nat.le_refl _, fun _ _ => rfl⟩
    exact ⟨hsz, rfl, fun _ _ => rfl, nofun, nofun, nofun, nofun, nofun, nofun, nofun, nofun, nofun, nofun, nofun, nofun, nofun, fun _ => rfl, fun _ => rfl, (by simp only [Bool.false_eq_true, if_false]; exact H.box), (by simpa using H.o1.below hb), (by simpa using H.o2.below hb), H.n12, H.n1, H.n2, Mod.of_below hb, .inl rfl, .inl rfl, nofun, nofun⟩
  · rintro listed a w i ⟨u1, u2, s1, s2, t1, t2, R⟩ hls hri
    obtain ⟨hi1, hi2, op, hop, hdep⟩ := Go.Chalk.mem_ready hri
    clear hri fin
    rw [hops] at hls hi1
    have hi3 : listed.getD i false = false := by
      have hi' : i < listed.size := by omega
      simpa [Array.getD, hi'] using hi2
    have hlt : i < listed.size := by omega
    have e10 : a.tmps[10]?.getD undef = .pointer (some ⟨A, 0, none⟩) := (slot_get a 10).trans ((slot_far R 10 (by omega)).trans h10)
    have e12 : a.tmps[12]?.getD undef = .int .i64 y := (slot_get a 12).trans ((slot_far R 12 (by omega)).trans h12)
    have hA : A < w.heap.size := Nat.lt_of_lt_of_le hA0 R.mod.size
    have hcs : i = 0 ∨ i = 1 ∨ i = 2 ∨ i = 3 ∨ i = 4 ∨ i = 5 ∨ i = 6 ∨ i = 7 ∨ i = 8 ∨ i = 9 ∨ i = 10 ∨ i = 11 ∨ i = 12 := by omega
    rcases hcs with rfl | rfl | rfl | rfl | rfl | rfl | rfl | rfl | rfl | rfl | rfl | rfl | rfl
    · obtain ⟨p, hp⟩ := p0
      rw [hp] at hop; cases hop
      refine wpOp_of hp rfl ?_
      clear hp
      have hfin := inv_of hlt (R.put1 (i := 0) (d := 25) (.inl ⟨rfl, rfl, rfl⟩))
      clear hdep R
      unfold Oper.wp
      go_simp
      exact hfin
    · obtain ⟨p, hp⟩ := p1
      rw [hp] at hop; cases hop
      refine wpOp_of hp rfl ?_
      clear hp
      have hfin := inv_of hlt (R.put1 (i := 1) (d := 26) (.inr (.inl ⟨rfl, rfl, rfl⟩)))
      have d0 : listed.getD 0 false = true := hdep ⟨0, .data⟩ (by simp) rfl
      have e25 : a.tmps[25]?.getD undef = .pointer (some ⟨A, 0, none⟩) := (slot_get a 25).trans (R.s25 d0)
      have n10 : listed.getD 10 false = false := by
        cases h : listed.getD 10 false with
        | false => rfl
        | true => have := (R.q1 h).1; rw [hi3] at this; cases this
      have cA : w.cell? ⟨A, 0, none⟩ = some v1 := cell_of_heap R.box (by simp only [n10]; rfl)
      clear hdep R
      unfold Oper.wp
      go_simp
      exact hfin
    · obtain ⟨p, hp⟩ := p2
      rw [hp] at hop; cases hop
      refine wpOp_of hp rfl ?_
      clear hp
      have hfin := inv_of hlt R.build1
      clear hdep R
      unfold Oper.wp
      go_simp
      exact hfin
    · obtain ⟨p, hp⟩ := p3
      rw [hp] at hop; cases hop
      refine wpOp_of hp rfl ?_
      clear hp
      have d1 : listed.getD 1 false = true := hdep ⟨1, .data⟩ (by simp) rfl
      have d2 : listed.getD 2 false = true := hdep ⟨2, .data⟩ (by simp) rfl
      have hu : u1 = v1 := R.e1 hi3
      have ho := R.o1.int_cells.1
      simp only [hi3, Bool.false_eq_true, if_false] at ho
      refine wp_append_lies w (.tmp 26) (.tmp 27) _ (by rfl) 0 3 i0 _ 1 8 Tryd.underlying40 hi hz0 hz1 hz2 rfl (by omega) u1 c.length (c.map (Value.int .i64)) ((R.s26 d1).trans hu.symm) ho ⟨t1, 0, none⟩ 1 1 [.int .i64 1] (R.s27 d2) rfl (news_heap (R.b1 d2 hi3).1) (by simp [Value.oneCell']) (by omega) (by unfold maxLen; omega) (by omega) (Nat.zero_le _) _ rfl ?_
      intro g cap w1 hown hgrow hat hlt'
      exact inv_of hlt (R.app1 hi3 hA0 hown hgrow hat)
    · obtain ⟨p, hp⟩ := p4
      rw [hp] at hop; cases hop
      refine wpOp_of hp rfl ?_
      clear hp
      have hfin := inv_of hlt (R.put1 (i := 4) (d := 29) (.inr (.inr (.inl ⟨rfl, rfl, rfl⟩))))
      clear hdep R
      unfold Oper.wp
      go_simp
      exact hfin
    · obtain ⟨p, hp⟩ := p5
      rw [hp] at hop; cases hop
      refine wpOp_of hp rfl ?_
      clear hp
      have hfin := inv_of hlt (R.put1 (i := 5) (d := 30) (.inr (.inr (.inr (.inl ⟨rfl, rfl, rfl⟩)))))
      have d4 : listed.getD 4 false = true := hdep ⟨4, .data⟩ (by simp) rfl
      have e29 : a.tmps[29]?.getD undef = .pointer (some ⟨A, 1, none⟩) := (slot_get a 29).trans (R.s29 d4)
      have n12 : listed.getD 12 false = false := by
        cases h : listed.getD 12 false with
        | false => rfl
        | true => have := (R.q2 h).1; rw [hi3] at this; cases this
      have cA : w.cell? ⟨A, 1, none⟩ = some v2 := cell_of_heap R.box (by simp only [n12]; rfl)
      clear hdep R
      unfold Oper.wp
      go_simp
      exact hfin
    · obtain ⟨p, hp⟩ := p6
      rw [hp] at hop; cases hop
      refine wpOp_of hp rfl ?_
      clear hp
      have hfin := inv_of hlt (R.put1 (i := 6) (d := 31) (.inr (.inr (.inr (.inr (.inl ⟨rfl, rfl, rfl⟩))))))
      clear hdep R
      unfold Oper.wp
      go_simp
      exact hfin
    · obtain ⟨p, hp⟩ := p7
      rw [hp] at hop; cases hop
      refine wpOp_of hp rfl ?_
      clear hp
      have hfin := inv_of hlt R.build2
      have d6 : listed.getD 6 false = true := hdep ⟨6, .data⟩ (by simp) rfl
      have e31 : a.tmps[31]?.getD undef = .int .i64 y := (slot_get a 31).trans (R.s31 d6)
      clear hdep R
      unfold Oper.wp
      go_simp
      exact hfin
    · obtain ⟨p, hp⟩ := p8
      rw [hp] at hop; cases hop
      refine wpOp_of hp rfl ?_
      clear hp
      have d5 : listed.getD 5 false = true := hdep ⟨5, .data⟩ (by simp) rfl
      have d7 : listed.getD 7 false = true := hdep ⟨7, .data⟩ (by simp) rfl
      have hu : u2 = v2 := R.e2 hi3
      have ho := R.o2.int_cells.1
      simp only [hi3, Bool.false_eq_true, if_false] at ho
      refine wp_append_lies w (.tmp 30) (.tmp 32) _ (by rfl) 0 3 i0 _ 1 8 Tryd.underlying40 hi hz0 hz1 hz2 rfl (by omega) u2 l.length (l.map (Value.int .i64)) ((R.s30 d5).trans hu.symm) ho ⟨t2, 0, none⟩ 1 1 [.int .i64 y] (R.s32 d7) rfl (news_heap (R.b2 d7 hi3).1) (by simp [Value.oneCell']) (by omega) (by unfold maxLen; omega) (by omega) (Nat.zero_le _) _ rfl ?_
      intro g cap w1 hown hgrow hat hlt'
      exact inv_of hlt (R.app2 hi3 hA0 hy hown hgrow hat)
    · obtain ⟨p, hp⟩ := p9
      rw [hp] at hop; cases hop
      refine wpOp_of hp rfl ?_
      clear hp
      have hfin := inv_of hlt (R.put1 (i := 9) (d := 34) (.inr (.inr (.inr (.inr (.inr (.inl ⟨rfl, rfl, rfl⟩)))))))
      clear hdep R
      unfold Oper.wp
      go_simp
      exact hfin
    · obtain ⟨p, hp⟩ := p10
      rw [hp] at hop; cases hop
      refine wpOp_of hp rfl ?_
      clear hp
      have d1 : listed.getD 1 false = true := hdep ⟨1, .phase⟩ (by simp) rfl
      have d3 : listed.getD 3 false = true := hdep ⟨3, .data⟩ (by simp) rfl
      have d9 : listed.getD 9 false = true := hdep ⟨9, .data⟩ (by simp) rfl
      have e34 : a.tmps[34]?.getD undef = .pointer (some ⟨A, 0, none⟩) := (slot_get a 34).trans (R.s34 d9)
      have e28 : a.tmps[28]?.getD undef = u1 := (slot_get a 28).trans (R.s28 d3)
      have hfin := inv_of hlt (R.store1 d1 d3)
      have fz : w.frozen? ⟨A, 0, none⟩ = false := frozen_of_heap R.box
      have cA : ∃ v, w.cell? ⟨A, 0, none⟩ = some v := ⟨_, cell_of_heap R.box (by rfl)⟩
      obtain ⟨vA, cA⟩ := cA
      obtain ⟨ua, un, ucap, hu⟩ : ∃ a n cap, u1 = .slice a n cap := by obtain ⟨a, cap, h⟩ := R.o1.form; exact ⟨a, _, cap, h⟩
      subst hu
      clear hdep R
      unfold Oper.wp
      go_simp
    · obtain ⟨p, hp⟩ := p11
      rw [hp] at hop; cases hop
      refine wpOp_of hp rfl ?_
      clear hp
      have hfin := inv_of hlt (R.put1 (i := 11) (d := 35) (.inr (.inr (.inr (.inr (.inr (.inr (⟨rfl, rfl, rfl⟩))))))))
      clear hdep R
      unfold Oper.wp
      go_simp
      exact hfin
    · obtain ⟨p, hp⟩ := p12
      rw [hp] at hop; cases hop
      refine wpOp_of hp rfl ?_
      clear hp
      have d5 : listed.getD 5 false = true := hdep ⟨5, .phase⟩ (by simp) rfl
      have d8 : listed.getD 8 false = true := hdep ⟨8, .data⟩ (by simp) rfl
      have d11 : listed.getD 11 false = true := hdep ⟨11, .data⟩ (by simp) rfl
      have e35 : a.tmps[35]?.getD undef = .pointer (some ⟨A, 1, none⟩) := (slot_get a 35).trans (R.s35 d11)
      have e33 : a.tmps[33]?.getD undef = u2 := (slot_get a 33).trans (R.s33 d8)
      have hfin := inv_of hlt (R.store2 d5 d8)
      have fz : w.frozen? ⟨A, 1, none⟩ = false := frozen_of_heap R.box
      have cA : ∃ v, w.cell? ⟨A, 1, none⟩ = some v := ⟨_, cell_of_heap R.box (by rfl)⟩
      obtain ⟨vA, cA⟩ := cA
      obtain ⟨ua, un, ucap, hu⟩ : ∃ a n cap, u2 = .slice a n cap := by obtain ⟨a, cap, h⟩ := R.o2.form; exact ⟨a, _, cap, h⟩
      subst hu
      clear hdep R
      unfold Oper.wp
      go_simp
  · rintro listed a w ⟨u1, u2, s1, s2, t1, t2, R⟩ hls hr
    have h : ∀ i, i < 13 → listed.getD i false = true := by
      have l0 : listed.getD 0 false = true := by
        obtain ⟨p, hp⟩ := p0
        refine ready_nil hr hp hls ?_
        simp
      have m0 : listed[0]?.getD false = true := by simpa using l0
      have l1 : listed.getD 1 false = true := by
        obtain ⟨p, hp⟩ := p1
        refine ready_nil hr hp hls ?_
        simp [Region.binds, m0]
      have m1 : listed[1]?.getD false = true := by simpa using l1
      have l2 : listed.getD 2 false = true := by
        obtain ⟨p, hp⟩ := p2
        refine ready_nil hr hp hls ?_
        simp
      have m2 : listed[2]?.getD false = true := by simpa using l2
      have l3 : listed.getD 3 false = true := by
        obtain ⟨p, hp⟩ := p3
        refine ready_nil hr hp hls ?_
        simp [Region.binds, m1, m2]
      have m3 : listed[3]?.getD false = true := by simpa using l3
      have l4 : listed.getD 4 false = true := by
        obtain ⟨p, hp⟩ := p4
        refine ready_nil hr hp hls ?_
        simp
      have m4 : listed[4]?.getD false = true := by simpa using l4
      have l5 : listed.getD 5 false = true := by
        obtain ⟨p, hp⟩ := p5
        refine ready_nil hr hp hls ?_
        simp [Region.binds, m4]
      have m5 : listed[5]?.getD false = true := by simpa using l5
      have l6 : listed.getD 6 false = true := by
        obtain ⟨p, hp⟩ := p6
        refine ready_nil hr hp hls ?_
        simp
      have m6 : listed[6]?.getD false = true := by simpa using l6
      have l7 : listed.getD 7 false = true := by
        obtain ⟨p, hp⟩ := p7
        refine ready_nil hr hp hls ?_
        simp [Region.binds, m6]
      have m7 : listed[7]?.getD false = true := by simpa using l7
      have l8 : listed.getD 8 false = true := by
        obtain ⟨p, hp⟩ := p8
        refine ready_nil hr hp hls ?_
        simp [Region.binds, m5, m7, m3]
      have m8 : listed[8]?.getD false = true := by simpa using l8
      have l9 : listed.getD 9 false = true := by
        obtain ⟨p, hp⟩ := p9
        refine ready_nil hr hp hls ?_
        simp [Region.binds, m0, m1, m2, m3, m4, m5]
      have m9 : listed[9]?.getD false = true := by simpa using l9
      have l10 : listed.getD 10 false = true := by
        obtain ⟨p, hp⟩ := p10
        refine ready_nil hr hp hls ?_
        simp [Region.binds, m9, m3, m8, m0, m1, m2, m4, m5]
      have m10 : listed[10]?.getD false = true := by simpa using l10
      have l11 : listed.getD 11 false = true := by
        obtain ⟨p, hp⟩ := p11
        refine ready_nil hr hp hls ?_
        simp [Region.binds, m0, m1, m2, m3, m4, m5, m6, m7, m8, m9, m10]
      have m11 : listed[11]?.getD false = true := by simpa using l11
      have l12 : listed.getD 12 false = true := by
        obtain ⟨p, hp⟩ := p12
        refine ready_nil hr hp hls ?_
        simp [Region.binds, m0, m1, m2, m3, m4, m5, m6, m7, m8, m9, m10, m11]
      have m12 : listed[12]?.getD false = true := by simpa using l12
      intro i hi
      have hcs : i = 0 ∨ i = 1 ∨ i = 2 ∨ i = 3 ∨ i = 4 ∨ i = 5 ∨ i = 6 ∨ i = 7 ∨ i = 8 ∨ i = 9 ∨ i = 10 ∨ i = 11 ∨ i = 12 := by omega
      rcases hcs with rfl | rfl | rfl | rfl | rfl | rfl | rfl | rfl | rfl | rfl | rfl | rfl | rfl <;> assumption
    have hbox := R.box
    have ho1 := R.o1
    have ho2 := R.o2
    simp only [h 10 (by omega), h 12 (by omega), h 3 (by omega), h 8 (by omega), if_true] at hbox ho1 ho2
    rw [frame_eq R.sz hsz R.df R.far]
    exact fin _ _ _ _ _ _ _ _ _ _ _ w u1 u2 s1 s2 ⟨hbox, ho1, ho2, R.n12, R.n1, R.n2⟩ R.mod R.f1 R.f2

end Go.Proofs.YtpacnaeckbcpjaaDoor
