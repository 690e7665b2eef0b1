/- The reference's sums: it answers the defining constraints. -/
import Derived.Test.YtpacnaeckbcpjaaDoorGate
import Derived.Test.YtpacnaeckbcpjaaDoorChecked
import Derived.Deep.CutRange
import Derived.Deep.DeepMust
namespace Go.Proofs.YtpacnaeckbcpjaaDoor
open Go.RowKit Go.Chalk

theorem sums_info : (Tryd.prog.info? 3).map (fun i => (i.zero, i.size, i.bytes)) = some (some (.int .i64 0), 1, 8) := by kernel_rfl

theorem one_lin (w : World) (y : Int) (hy : -9223372036854775808 ≤ y ∧ y ≤ 9223372036854775807) :
    NewAt w (((w.alloc (.cells #[.int .i64 1] 3)).alloc (.cells #[.int .i64 y] 3)).alloc (.cells #[.slice (some ⟨w.heap.size, 0, none⟩) 1 1, .slice (some ⟨w.heap.size + 1, 0, none⟩) 1 1, .int .i64 1] 42))
      (.sl ([Lin.mk [1] [y] 1].map Lin.toD)) [.slice (some ⟨w.heap.size + 1 + 1, 0, none⟩) 1 1] := by
  have h1 := (Own.lit (w := w) (F := fun _ => False) (e := 3) (sz := 1) (n := 1) (xs := dints [1]) (cs := [.int .i64 1]) rfl (by decide) rfl (DsAt.ints (xs := [1]) (fun x hx => by simp at hx; omega)) (fun _ h => h.elim)).alloc (.cells #[.int .i64 y] 3)
  have h2 := Own.lit (w := w.alloc (.cells #[.int .i64 1] 3)) (F := fun _ => False) (e := 3) (sz := 1) (n := 1) (xs := dints [y]) (cs := [.int .i64 y]) rfl (by decide) rfl (DsAt.ints (xs := [y]) (fun x hx => by simp at hx; omega)) (fun _ h => h.elim)
  have h3 := Own.lit (w := (w.alloc (.cells #[.int .i64 1] 3)).alloc (.cells #[.int .i64 y] 3)) (F := fun k => w.heap.size ≤ k ∧ k < w.heap.size + 2) (e := 42) (sz := 3) (n := 1) rfl (by decide) rfl
    (Lin.at (c := [1]) (l := [y]) (least := 1) (h1.read (fun _ h => h.elim) (fun k hk => by simp at hk; omega) rfl) (h2.read (fun _ h => h.elim) (fun k hk => by simp at hk; omega) rfl) (by omega)) (fun k hk => by simp; omega)
  have h4 := h3.read (G := fun k => w.heap.size ≤ k ∧ k < w.heap.size + 3) (fun k hk => by omega) (fun k hk => by simp at hk; omega) rfl
  unfold NewAt
  simpa using h4

/-- Two constraints under way, apart from one another, all of their memory from block B0 on. -/
structure Two (w0 w : World) (A B : Nat) (v1 v2 v3 v4 : Value) (c1 l1 c2 l2 : List Int) (k1 k2 : Int) : Prop where
  below : Below w0.heap.size w0 w
  hA : w0.heap.size ≤ A ∧ w0.heap.size ≤ B ∧ A ≠ B
  ex : ∃ r1 r2 r3 r4, LinBox w A 42 3 v1 v2 r1 r2 c1 l1 k1 ∧ LinBox w B 42 3 v3 v4 r3 r4 c2 l2 k2 ∧
    (w0.heap.size ≤ r1 ∧ w0.heap.size ≤ r2 ∧ w0.heap.size ≤ r3 ∧ w0.heap.size ≤ r4) ∧ (r1 ≠ r3 ∧ r1 ≠ r4 ∧ r2 ≠ r3 ∧ r2 ≠ r4 ∧ r1 ≠ B ∧ r2 ≠ B ∧ r3 ≠ A ∧ r4 ≠ A)
theorem Two.swap {w0 w : World} {A B : Nat} {v1 v2 v3 v4 : Value} {c1 l1 c2 l2 : List Int} {k1 k2 : Int} (h : Two w0 w A B v1 v2 v3 v4 c1 l1 c2 l2 k1 k2) : Two w0 w B A v3 v4 v1 v2 c2 l2 c1 l1 k2 k1 := by
  obtain ⟨hb, hA, r1, r2, r3, r4, L1, L2, hr, hn⟩ := h
  exact ⟨hb, by omega, r3, r4, r1, r2, L2, L1, by omega, by omega⟩
theorem Two.alloc {w0 w : World} {A B : Nat} {v1 v2 v3 v4 : Value} {c1 l1 c2 l2 : List Int} {k1 k2 : Int} (h : Two w0 w A B v1 v2 v3 v4 c1 l1 c2 l2 k1 k2) (o : Obj) : Two w0 (w.alloc o) A B v1 v2 v3 v4 c1 l1 c2 l2 k1 k2 := by
  obtain ⟨hb, hA, r1, r2, r3, r4, L1, L2, hr, hn⟩ := h
  exact ⟨hb.alloc hb.size _, hA, r1, r2, r3, r4, L1.alloc o, L2.alloc o, hr, hn⟩
theorem Two.cells {w0 w : World} {A B : Nat} {v1 v2 v3 v4 : Value} {c1 l1 c2 l2 : List Int} {k1 k2 : Int} (h : Two w0 w A B v1 v2 v3 v4 c1 l1 c2 l2 k1 k2) :
    w.cell? ⟨A, 0, none⟩ = some v1 ∧ w.cell? ⟨A, 1, none⟩ = some v2 ∧ w.cell? ⟨B, 0, none⟩ = some v3 ∧ w.cell? ⟨B, 1, none⟩ = some v4 := by
  obtain ⟨hb, hA, r1, r2, r3, r4, L1, L2, hr, hn⟩ := h
  exact ⟨L1.cells.1, L1.cells.2.1, L2.cells.1, L2.cells.2.1⟩
theorem Two.rows {w0 w : World} {A B : Nat} {v1 v2 v3 v4 : Value} {c1 l1 c2 l2 : List Int} {k1 k2 : Int} (h : Two w0 w A B v1 v2 v3 v4 c1 l1 c2 l2 k1 k2) (y : Int) :
    (w.alloc (.cells #[.int .i64 y] 3)).ownsRow 0 3 1 v1 c1.length (c1.map (Value.int .i64)) ∧ (w.alloc (.cells #[.int .i64 y] 3)).ownsRow 0 3 1 v2 l1.length (l1.map (Value.int .i64)) := by
  obtain ⟨hb, hA, r1, r2, r3, r4, L1, L2, hr, hn⟩ := h.alloc (.cells #[.int .i64 y] 3)
  exact ⟨L1.o1.int_cells.1, L1.o2.int_cells.1⟩
theorem Two.push1 {w0 w w1 : World} {A B : Nat} {v1 v2 v3 v4 v' : Value} {c1 l1 c2 l2 : List Int} {k1 k2 y : Int} {o : Obj} (h : Two w0 w A B v1 v2 v3 v4 c1 l1 c2 l2 k1 k2) (hy : -9223372036854775808 ≤ y ∧ y ≤ 9223372036854775807)
    (ho : w1.ownsRow 0 3 1 v' (c1.length + 1) (c1.map (Value.int .i64) ++ [.int .i64 y])) (hg : (w.alloc o).grownBy w1 v1.ownBlock) (hat : v'.ownBlock = v1.ownBlock ∨ v'.ownBlock = some (w.alloc o).heap.size) :
    w1.heap[A]? = some (.cells #[v1, v2, .int .i64 k1] 42 (0, 0)) ∧ Two w0 (w1.setCell ⟨A, 0, none⟩ v') A B v' v2 v3 v4 (c1 ++ [y]) l1 c2 l2 k1 k2 := by
  obtain ⟨hb, hA, r1, r2, r3, r4, L1, L2, hr, hn⟩ := h.alloc o
  obtain ⟨r1', hbx, hm, L1', hr1, hM⟩ := L1.push1 hy ho hg hat
  have h1 := L1.lt
  have h2 := L2.lt
  exact ⟨hbx, hb.trans (hM.below hb.size (fun k hk => by rcases hk with rfl | rfl <;> omega)), hA, r1', r2, r3, r4, L1', L2.kept hM (by omega) (by omega) (by omega), by omega, by omega⟩
theorem Two.push2 {w0 w w1 : World} {A B : Nat} {v1 v2 v3 v4 v' : Value} {c1 l1 c2 l2 : List Int} {k1 k2 y : Int} {o : Obj} (h : Two w0 w A B v1 v2 v3 v4 c1 l1 c2 l2 k1 k2) (hy : -9223372036854775808 ≤ y ∧ y ≤ 9223372036854775807)
    (ho : w1.ownsRow 0 3 1 v' (l1.length + 1) (l1.map (Value.int .i64) ++ [.int .i64 y])) (hg : (w.alloc o).grownBy w1 v2.ownBlock) (hat : v'.ownBlock = v2.ownBlock ∨ v'.ownBlock = some (w.alloc o).heap.size) :
    w1.heap[A]? = some (.cells #[v1, v2, .int .i64 k1] 42 (0, 0)) ∧ Two w0 (w1.setCell ⟨A, 1, none⟩ v') A B v1 v' v3 v4 c1 (l1 ++ [y]) c2 l2 k1 k2 := by
  obtain ⟨hb, hA, r1, r2, r3, r4, L1, L2, hr, hn⟩ := h.alloc o
  obtain ⟨r2', hbx, hm, L1', hr2, hM⟩ := L1.push2 hy ho hg hat
  have h1 := L1.lt
  have h2 := L2.lt
  exact ⟨hbx, hb.trans (hM.below hb.size (fun k hk => by rcases hk with rfl | rfl <;> omega)), hA, r1, r2', r3, r4, L1', L2.kept hM (by omega) (by omega) (by omega), by omega, by omega⟩

/-- Both, put into one slice. -/
theorem Two.read {w0 w : World} {A B : Nat} {v1 v2 v3 v4 : Value} {c1 l1 c2 l2 : List Int} {k1 k2 : Int} (h : Two w0 w A B v1 v2 v3 v4 c1 l1 c2 l2 k1 k2) (h1 : -9223372036854775808 ≤ k1 ∧ k1 ≤ 9223372036854775807) (h2 : -9223372036854775808 ≤ k2 ∧ k2 ≤ 9223372036854775807) :
    NewAt w0 (w.alloc (.cells #[v1, v2, .int .i64 k1, v3, v4, .int .i64 k2] 42)) (.sl ([Lin.mk c1 l1 k1, Lin.mk c2 l2 k2].map Lin.toD)) [.slice (some ⟨w.heap.size, 0, none⟩) 2 2] := by
  obtain ⟨hb, hA, r1, r2, r3, r4, L1, L2, hr, hn⟩ := h
  have g1 := L1.lt
  have g2 := L2.lt
  have d1 := L1.read (G := fun k => w0.heap.size ≤ k ∧ k < w.heap.size) (by omega) (by omega) h1
  have d2 := L2.read (G := fun k => w0.heap.size ≤ k ∧ k < w.heap.size) (by omega) (by omega) h2
  have h3 := Own.lit (w := w) (e := 42) (sz := 3) (n := 2) rfl (by decide) rfl (d1.append d2) (fun k hk => hk.2)
  have hs := hb.size
  have h4 := h3.read (G := fun k => w0.heap.size ≤ k ∧ k < w.heap.size + 1) (fun k hk => by omega) (fun k hk => by simp at hk; omega) rfl
  unfold NewAt
  simpa using h4
theorem Two.box {w0 w : World} {A B : Nat} {v1 v2 v3 v4 : Value} {c1 l1 c2 l2 : List Int} {k1 k2 : Int} (h : Two w0 w A B v1 v2 v3 v4 c1 l1 c2 l2 k1 k2) :
    w.cell? ⟨A, 2, none⟩ = some (.int .i64 k1) ∧ w.cell? ⟨B, 2, none⟩ = some (.int .i64 k2) := by
  obtain ⟨hb, hA, r1, r2, r3, r4, L1, L2, hr, hn⟩ := h
  exact ⟨L1.cells.2.2.1, L2.cells.2.2.1⟩

/-- What holds at each round of the loop of sums. -/
structure SumsRel (w wr : World) (A B : Nat) (x k : Int) (ls : List Int) (j : Nat) : Prop where
  le : j ≤ ls.length
  ex : ∃ v1 v2 v3 v4, Two w wr A B v1 v2 v3 v4 (k :: (ls.take j).map (fun _ => 1)) (-x :: ls.take j) (((ls.length : Int) - k + 1) :: (ls.take j).map (fun _ => 1)) (x :: (ls.take j).map (- ·)) k ((ls.length : Int) - k + 1)

theorem linbox_new (w : World) (x k z : Int) (hx : -9223372036854775808 ≤ x ∧ x ≤ 9223372036854775807) (hk : -9223372036854775808 ≤ k ∧ k ≤ 9223372036854775807) :
    LinBox (((w.alloc (.cells #[.int .i64 k] 3)).alloc (.cells #[.int .i64 x] 3)).alloc (.cells #[.slice (some ⟨w.heap.size, 0, none⟩) 1 1, .slice (some ⟨w.heap.size + 1, 0, none⟩) 1 1, .int .i64 z] 42)) (w.heap.size + 1 + 1) 42 3 (.slice (some ⟨w.heap.size, 0, none⟩) 1 1) (.slice (some ⟨w.heap.size + 1, 0, none⟩) 1 1) w.heap.size (w.heap.size + 1) [k] [x] z := by
  have own1 : ∀ (w : World) (y : Int), -9223372036854775808 ≤ y ∧ y ≤ 9223372036854775807 → Own (w.alloc (.cells #[.int .i64 y] 3)) (fun _ => False) 3 1 (.slice (some ⟨w.heap.size, 0, none⟩) 1 1) (some w.heap.size) (dints [y]) :=
    fun w y hy => Own.lit (xs := dints [y]) (cs := [.int .i64 y]) rfl (by decide) rfl (DsAt.ints (xs := [y]) (fun x hx => by simp at hx; omega)) (fun _ h => h.elim)
  have o1 := own1 w k hk
  have o2 := own1 (w.alloc (.cells #[.int .i64 k] 3)) x hx
  exact ⟨by rw [show w.heap.size + 1 + 1 = ((w.alloc (.cells #[.int .i64 k] 3)).alloc (.cells #[.int .i64 x] 3)).heap.size from by simp]; exact boxed (B := w.heap.size + 3) (Below.refl _ _) (by simp), (o1.alloc _).alloc _, (by simpa using o2.alloc _), by omega, by omega, by omega⟩

theorem sums_start (w : World) (x k : Int) (ls : List Int) (hx : -9223372036854775807 ≤ x ∧ x ≤ 9223372036854775807) (hk : 0 < k) (hl : k ≤ (ls.length : Int)) (hlen : ls.length ≤ 1000000) :
    SumsRel w ((((((w.alloc (.cells #[.int .i64 k] 3)).alloc (.cells #[.int .i64 (-x)] 3)).alloc (.cells #[.slice (some ⟨w.heap.size, 0, none⟩) 1 1, .slice (some ⟨w.heap.size + 1, 0, none⟩) 1 1, .int .i64 k] 42)).alloc
      (.cells #[.int .i64 (↑ls.length - k + 1)] 3)).alloc (.cells #[.int .i64 x] 3)).alloc (.cells #[.slice (some ⟨w.heap.size + 1 + 1 + 1, 0, none⟩) 1 1, .slice (some ⟨w.heap.size + 1 + 1 + 1 + 1, 0, none⟩) 1 1, .int .i64 (↑ls.length - k + 1)] 42))
      (w.heap.size + 1 + 1) (w.heap.size + 1 + 1 + 1 + 1 + 1) x k ls 0 := by
  have b1 := linbox_new w (-x) k k (by omega) (by omega)
  generalize hw1 : (((w.alloc (.cells #[.int .i64 k] 3)).alloc (.cells #[.int .i64 (-x)] 3)).alloc (.cells #[.slice (some ⟨w.heap.size, 0, none⟩) 1 1, .slice (some ⟨w.heap.size + 1, 0, none⟩) 1 1, .int .i64 k] 42)) = w1 at b1 ⊢
  have hsz : w1.heap.size = w.heap.size + 1 + 1 + 1 := by rw [← hw1]; simp
  have hb : Below w.heap.size w w1 := by rw [← hw1]; exact (((Below.refl _ _).alloc (Nat.le_refl _) _).alloc (by simp) _).alloc (by simp; omega) _
  have b2 := linbox_new w1 x (↑ls.length - k + 1) (↑ls.length - k + 1) (by omega) (by omega)
  rw [hsz] at b2
  refine ⟨Nat.zero_le _, _, _, _, _, ((hb.alloc (by omega) _).alloc (by simp; omega) _).alloc (by simp; omega) _, by omega, _, _, _, _, by simpa using ((b1.alloc _).alloc _).alloc _, by simpa using b2, by omega, by omega⟩

end Go.Proofs.YtpacnaeckbcpjaaDoor
