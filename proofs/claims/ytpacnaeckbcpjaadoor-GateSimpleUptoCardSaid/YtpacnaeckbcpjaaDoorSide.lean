/- Two appends side by side. -/
import Derived.Test.YtpacnaeckbcpjaaDoorSums
import Derived.Deep.RegionLaw
import Derived.Deep.AppendLies
namespace Go.Proofs.YtpacnaeckbcpjaaDoor
open Go.RowKit Go.Chalk

/-- Two appends side by side: where they stand in world W: the box A holds v1, v2 as ever; u1, u2 are the slices now, in the rows s1, s2. -/
structure Side (W0 W : World) (A : Nat) (v1 v2 u1 u2 : Value) (r1 r2 s1 s2 : Nat) (c l : List Int) (least : Int) : Prop where
  box : W.heap[A]? = some (.cells #[v1, v2, .int .i64 least] 42 (0, 0))
  o1 : Own W (fun _ => False) 3 1 u1 (some s1) (dints c)
  o2 : Own W (fun _ => False) 3 1 u2 (some s2) (dints l)
  n12 : s1 ≠ s2
  n1 : s1 ≠ A
  n2 : s2 ≠ A
  mod : Mod (fun k => k = r1 ∨ k = r2) W0 W
  f1 : s1 = r1 ∨ W0.heap.size ≤ s1
  f2 : s2 = r2 ∨ W0.heap.size ≤ s2
theorem Side.alloc {W0 W : World} {A : Nat} {v1 v2 u1 u2 : Value} {r1 r2 s1 s2 : Nat} {c l : List Int} {least : Int} (h : Side W0 W A v1 v2 u1 u2 r1 r2 s1 s2 c l least) (o : Obj) : Side W0 (W.alloc o) A v1 v2 u1 u2 r1 r2 s1 s2 c l least :=
  ⟨(Below.heap_alloc _ _ _ (Array.getElem?_eq_some_iff.1 h.box).1).trans h.box, h.o1.alloc o, h.o2.alloc o, h.n12, h.n1, h.n2, h.mod.alloc o, h.f1, h.f2⟩
theorem Side.drew {W0 W : World} {A : Nat} {v1 v2 u1 u2 : Value} {r1 r2 s1 s2 : Nat} {c l : List Int} {least : Int} (h : Side W0 W A v1 v2 u1 u2 r1 r2 s1 s2 c l least) : Side W0 W.drew A v1 v2 u1 u2 r1 r2 s1 s2 c l least :=
  ⟨h.box, h.o1.below ⟨rfl, rfl, rfl, Nat.le_refl _, fun _ _ => rfl⟩, h.o2.below ⟨rfl, rfl, rfl, Nat.le_refl _, fun _ _ => rfl⟩, h.n12, h.n1, h.n2, h.mod.drew, h.f1, h.f2⟩
theorem Side.start {W : World} {A : Nat} {v1 v2 : Value} {r1 r2 : Nat} {c l : List Int} {least : Int} (h : LinBox W A 42 3 v1 v2 r1 r2 c l least) : Side W W A v1 v2 v1 v2 r1 r2 r1 r2 c l least :=
  ⟨h.box, h.o1, h.o2, h.n12, h.n1, h.n2, Mod.refl _ _, .inl rfl, .inl rfl⟩
/-- Behind the first append. -/
theorem Side.push1 {W0 W w1 : World} {A : Nat} {v1 v2 u1 u2 : Value} {r1 r2 s1 s2 g cap : Nat} {c l : List Int} {least y : Int} (h : Side W0 W A v1 v2 u1 u2 r1 r2 s1 s2 c l least) (hA : A < W0.heap.size) (hy : -9223372036854775808 ≤ y ∧ y ≤ 9223372036854775807)
    (ho : w1.ownsRow 0 3 1 (.slice (some ⟨g, 0, none⟩) (c.length + 1) cap) (c.length + 1) (c.map (Value.int .i64) ++ [.int .i64 y])) (hg : W.grownBy w1 u1.ownBlock) (hat : u1.ownBlock = some g ∨ g = W.heap.size) :
    Side W0 w1 A v1 v2 (.slice (some ⟨g, 0, none⟩) (c.length + 1) cap) u2 r1 r2 g s2 (c ++ [y]) l least ∧ Mod (fun k => k = s1) W w1 := by
  obtain ⟨g1, g2, g3⟩ := h.o1.int_appended (ys := [y]) (fun x hx => by simp at hx; subst hx; exact hy) (by simpa using ho) hg (by rcases hat with h | h; exact .inl h.symm; exact .inr (by rw [h]; rfl))
  have hm : Mod (fun k => k = s1) W w1 := g2.mono (fun k hk => by simpa using hk.symm)
  have hs1 := h.o1.row_lt rfl
  have hs2 := h.o2.row_lt rfl
  have hsz := h.mod.size
  have hg' : g = s1 ∨ g = W.heap.size := by
    rcases hat with e | e
    · rw [h.o1.row] at e; simp at e; exact .inl e.symm
    · exact .inr e
  have n12 := h.n12
  have n1 := h.n1
  have f1 := h.f1
  refine ⟨⟨(hm.block A (Array.getElem?_eq_some_iff.1 h.box).1 (fun e => n1 e.symm)).trans h.box, g1, h.o2.kept hm (fun _ e => e.elim) (fun k hk => by cases hk; omega), by omega, by omega, h.n2, h.mod.trans hm (fun i hi e => ?_), by omega, h.f2⟩, hm⟩
  rcases f1 with e' | e'
  · exact .inl (by omega)
  · omega

/-- Behind the second append. -/
theorem Side.push2 {W0 W w1 : World} {A : Nat} {v1 v2 u1 u2 : Value} {r1 r2 s1 s2 g cap : Nat} {c l : List Int} {least y : Int} (h : Side W0 W A v1 v2 u1 u2 r1 r2 s1 s2 c l least) (hA : A < W0.heap.size) (hy : -9223372036854775808 ≤ y ∧ y ≤ 9223372036854775807)
    (ho : w1.ownsRow 0 3 1 (.slice (some ⟨g, 0, none⟩) (l.length + 1) cap) (l.length + 1) (l.map (Value.int .i64) ++ [.int .i64 y])) (hg : W.grownBy w1 u2.ownBlock) (hat : u2.ownBlock = some g ∨ g = W.heap.size) :
    Side W0 w1 A v1 v2 u1 (.slice (some ⟨g, 0, none⟩) (l.length + 1) cap) r1 r2 s1 g c (l ++ [y]) least ∧ Mod (fun k => k = s2) W w1 := by
  obtain ⟨g1, g2, g3⟩ := h.o2.int_appended (ys := [y]) (fun x hx => by simp at hx; subst hx; exact hy) (by simpa using ho) hg (by rcases hat with h | h; exact .inl h.symm; exact .inr (by rw [h]; rfl))
  have hm : Mod (fun k => k = s2) W w1 := g2.mono (fun k hk => by simpa using hk.symm)
  have hs1 := h.o1.row_lt rfl
  have hs2 := h.o2.row_lt rfl
  have hsz := h.mod.size
  have hg' : g = s2 ∨ g = W.heap.size := by
    rcases hat with e | e
    · rw [h.o2.row] at e; simp at e; exact .inl e.symm
    · exact .inr e
  have n12 := h.n12
  have n1 := h.n2
  have f1 := h.f2
  refine ⟨⟨(hm.block A (Array.getElem?_eq_some_iff.1 h.box).1 (fun e => n1 e.symm)).trans h.box, h.o1.kept hm (fun _ e => e.elim) (fun k hk => by cases hk; omega), g1, by omega, h.n1, by omega, h.mod.trans hm (fun i hi e => ?_), h.f1, by omega⟩, hm⟩
  rcases f1 with e' | e'
  · exact .inr (by omega)
  · omega

/-- Behind the stores. -/
theorem Side.stored {W0 W : World} {A : Nat} {v1 v2 u1 u2 : Value} {r1 r2 s1 s2 : Nat} {c l : List Int} {least : Int} (h : Side W0 W A v1 v2 u1 u2 r1 r2 s1 s2 c l least) :
    LinBox ((W.setCell ⟨A, 0, none⟩ u1).setCell ⟨A, 1, none⟩ u2) A 42 3 u1 u2 s1 s2 c l least ∧ Mod (fun k => k = r1 ∨ k = r2 ∨ k = A) W0 ((W.setCell ⟨A, 0, none⟩ u1).setCell ⟨A, 1, none⟩ u2) := by
  have n1 := h.n1
  have n2 := h.n2
  refine ⟨⟨?_, (h.o1.store _ id (by simp; omega)).store _ id (by simp; omega), (h.o2.store _ id (by simp; omega)).store _ id (by simp; omega), h.n12, h.n1, h.n2⟩, ?_⟩
  · rw [box_store _ (box_store _ h.box)]; rfl
  · exact ((h.mod.mono (fun k hk => by omega)).setCell (p := ⟨A, 0, none⟩) (fun _ => .inr (.inr rfl)) _).setCell (p := ⟨A, 1, none⟩) (fun _ => .inr (.inr rfl)) _
theorem Side.stored' {W0 W : World} {A : Nat} {v1 v2 u1 u2 : Value} {r1 r2 s1 s2 : Nat} {c l : List Int} {least : Int} (h : Side W0 W A v1 v2 u1 u2 r1 r2 s1 s2 c l least) :
    LinBox ((W.setCell ⟨A, 1, none⟩ u2).setCell ⟨A, 0, none⟩ u1) A 42 3 u1 u2 s1 s2 c l least ∧ Mod (fun k => k = r1 ∨ k = r2 ∨ k = A) W0 ((W.setCell ⟨A, 1, none⟩ u2).setCell ⟨A, 0, none⟩ u1) := by
  have n1 := h.n1
  have n2 := h.n2
  refine ⟨⟨?_, (h.o1.store _ id (by simp; omega)).store _ id (by simp; omega), (h.o2.store _ id (by simp; omega)).store _ id (by simp; omega), h.n12, h.n1, h.n2⟩, ?_⟩
  · rw [box_store _ (box_store _ h.box)]; rfl
  · exact ((h.mod.mono (fun k hk => by omega)).setCell (p := ⟨A, 1, none⟩) (fun _ => .inr (.inr rfl)) _).setCell (p := ⟨A, 0, none⟩) (fun _ => .inr (.inr rfl)) _

theorem news_heap {w : World} {t : Nat} {x : Value} {e : TypeId} (h : w.heap[t]? = some (.cells #[x] e (0, 0))) : ∀ j u, [x][j]? = some u → w.cell? ((⟨t, 0, none⟩ : Addr).add j) = some u := by
  intro j u hj
  match j, hj with
  | 0, hj => simp at hj; subst hj; simpa [Addr.add] using cell_of_heap (i := 0) h rfl
theorem heap_alloc_get' (w : World) (o : Obj) (k : Nat) : (w.alloc o).heap[k]? = if k = w.heap.size then some o else w.heap[k]? := by
  show (w.heap.push o)[k]? = _
  rw [Array.getElem?_push]

end Go.Proofs.YtpacnaeckbcpjaaDoor
