/- GateRuns: for every ground formula, assignment and turn, where what comes in is of bulk at most 1048576, the law returns true. -/
import Derived.Test.YtpacnaeckbcpjaaDoorLawMeans
import Derived.Test.YtpacnaeckbcpjaaDoorReader
import Derived.Deep.RegionHeld3
namespace Go.Proofs.YtpacnaeckbcpjaaDoor
open Go.ChangeShapes Go.WideShapes Go.ChangeAt Go.RowKit Go.Chalk

theorem own_none {w : World} {F : Nat → Prop} {e : TypeId} {sz : Nat} {v : Value} {r : Option Nat} {xs : List Bool} (h : Chalk.Own w F e sz v r (dbools xs)) : Chalk.Own w (fun _ => False) e sz v r (dbools xs) := by
  obtain ⟨cs, h1, h2⟩ := h.cells
  exact ⟨⟨cs, h1, by rw [bools_inv h2]; exact DsAt.bools⟩, h.row, fun _ _ => id, fun _ h => h.elim⟩

theorem flip_cell {w : World} {F : Nat → Prop} {e : TypeId} {ra : Option Addr} {cap n : Nat} {r : Option Nat} {xs : List Bool} (h : Chalk.Own w F e 1 (.slice ra n cap) r (dbools xs)) (hn : xs.length = n) (j : Nat) (bb : Bool) (hj : xs[j]? = some bb) (b : Bool) :
    ∃ g, ra = some ⟨g, 0, none⟩ ∧ r = some g ∧ w.cell? ⟨g, j, none⟩ = some (.bool bb) ∧ w.frozen? ⟨g, j, none⟩ = false ∧ n ≤ cap ∧ cap ≤ maxLen ∧
      ∀ W : World, Below w.heap.size w W → DAt (W.setCell ⟨g, j, none⟩ (.bool b)) (· < (W.setCell ⟨g, j, none⟩ (.bool b)).heap.size) (.sl (dbools (xs.set j b))) [.slice ra n cap] := by
  subst hn
  obtain ⟨hj', rfl⟩ := List.getElem?_eq_some_iff.1 hj
  clear hj
  have hj := hj'
  obtain ⟨cs, h1, h2⟩ := h.cells
  rw [bools_inv h2, dbools_length] at h1
  have h1' := h1
  obtain ⟨hlen, h1⟩ := h1
  rcases h1 with ⟨hv, hn⟩ | ⟨g, cap', cur, hv, _, hh, hc1, hc2, hc3, hc4⟩
  · omega
  · obtain ⟨rfl, _, rfl⟩ := hv
    have hg := (Array.getElem?_eq_some_iff.1 hh).1
    have hc : ∀ i (hi : i < xs.length), w.cell? ⟨g, i, none⟩ = some (.bool xs[i]) := fun i hi => by
      have := h1'.cellAt (g := g) (cap := cap) i (by simpa using hi)
      rw [this]; simp [hi]
    refine ⟨g, rfl, h.row.symm, hc j hj, frozen_of_heap hh, hc1, hc2, fun W hb => ?_⟩
    have hl : (xs.set j b).length = xs.length := by simp
    have := DAt.slice (w := W.setCell ⟨g, j, none⟩ (.bool b)) (F := (· < (W.setCell ⟨g, j, none⟩ (.bool b)).heap.size)) (xs := dbools (xs.set j b)) (b := g) (o := 0) (cap := cap) (a := some ⟨g, 0, none⟩) (fun _ => ⟨rfl, by have := hb.size; simp; omega⟩) (by simpa using hc1) hc2 (RowAt.mk DsAt.bools (fun i hi => ?_))
    · rwa [dbools_length, hl] at this
    · have hi' : i < xs.length := by simpa using hi
      have hcW : ∀ i (hi : i < xs.length), W.cell? ⟨g, i, none⟩ = some (.bool xs[i]) := fun i hi => (hb.cell (p := ⟨g, i, none⟩) hg).trans (hc i hi)
      simp only [Nat.zero_add, List.getElem_map]
      by_cases hij : j = i
      · subst hij
        rw [World.cell?_setCell_same W _ _ (hcW j hj)]; simp
      · rw [World.cell?_setCell_other W _ _ _ (by simp [hij]), hcW i hi', List.getElem_set_ne hij]

theorem step_append_srcg {P : Program} {w : World} {ops : Array Oper} {o : Oper} {act : Act} {K : Act → World → Prop} {Q : Exit → Act → World → Prop} {E : Prop} (hgd : Region.wanted o (yielded ops act.tmps) = true) (s x : Operand) (t : TypeId)
    (ho : o.op = .call { callee := .builtin .append, args := #[s, x], argTypes := #[t, t] }) (e : TypeId) (i : TypeInfo) (z : Value) (size bytes : Nat) (ht : P.underlying t = some (.slice e)) (hi : P.info? e = some i) (hz : i.zero = some z)
    (hsize : i.size = size) (hby : i.bytes = bytes) (hzs : z.cells.size = size) (hsz : 0 < size) (v u : Value) (F : Nat → Prop) (r : Option Nat) (xs ys : List D) (hs : act.eval s = v) (hx : act.eval x = u) (own : Chalk.Own w F e size v r xs) (src : DAt w F (.sl ys) [u])
    (hw : widths ys = ys.length * size) (h63 : xs.length + ys.length ≤ maxLen) (hbytes : (xs.length + ys.length) * bytes ≤ 140737488355328)
    (h : ∀ a cap r' w', Chalk.Own w' F e size (.slice a (xs.length + ys.length) cap) r' (xs ++ ys) → Chalk.Mod (fun k => r = some k) w w' → (r' = r ∨ r' = some w.heap.size) → K (act.put o.dst (.slice a (xs.length + ys.length) cap)) w') :
    if Region.wanted o (yielded ops act.tmps) = true then Oper.wp P o act w K Q else E := by
  rw [if_pos hgd]
  exact wp_append_src w s x t ho e i z size bytes ht hi hz hsize hby hzs hsz v u F r xs ys hs hx own src hw h63 hbytes h

theorem runs_below {w4 w5 : World} {o : Obj} (h : Chalk.Mod (fun k => some w4.heap.size = some k) (w4.alloc o) w5) : Below w4.heap.size w4 w5 :=
  ((Below.refl w4.heap.size w4).alloc (Nat.le_refl _) o).trans (h.below (by show w4.heap.size ≤ (w4.alloc o).heap.size; simp) (fun k hk => by simp at hk; omega))

end Go.Proofs.YtpacnaeckbcpjaaDoor
