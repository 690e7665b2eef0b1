/- Joined texts: NnfP, Nnf, WNnf. -/
import Derived.Test.YtlfjjokcbeaekaaGreatDoorLNnf2
import Derived.Test.YtlfjjokcbeaekaaGreatDoorLNnf3

/- A formula's negation normal form is of bounded size and fits. -/
namespace Go.Proofs.YtlfjjokcbeaekaaGreatDoor
open Go.RowKit Go.Chalk
theorem leaf_sm (k : Int) : FrmSm (.mk k [] 0 [] [] []) := ⟨by simp [Frm.terms], by simp [Frm.binds], by simp [Frm.l], by simp [Frm.name], by simp [Frm.terms], by simp [Frm.binds]⟩
theorem leaf_nodes (k : Int) : ∀ g ∈ nodesF (.mk k [] 0 [] [] []), FrmSm g := by
  intro g hg
  rw [nodesF, nodesL] at hg
  obtain rfl := List.mem_singleton.1 hg
  exact leaf_sm k
theorem leaf_size (k : Int) : (Frm.mk k [] 0 [] [] []).size = 1 := by rw [Frm.size, fsizes]
/-- What every member of a list keeps. -/
structure NnfL (l r : List Frm) : Prop where
  len : r.length = l.length
  size : ∀ j (h : j < l.length) (h' : j < r.length), r[j].size ≤ 3 * l[j].size
  sizes : fsizes r ≤ 3 * fsizes l
  nodes : ∀ g ∈ nodesL r, FrmSm g
theorem nnfL_head {l r : List Frm} (h : NnfL l r) (k : Nat) : ((r.drop k).headD zeroFrm).size ≤ 3 * fsizes (l.drop k) + 1 ∧ ∀ g ∈ nodesF ((r.drop k).headD zeroFrm), FrmSm g := by
  have hl := h.len
  by_cases hk : k < r.length
  · have e : (r.drop k).headD zeroFrm = r[k] := by rw [List.drop_eq_getElem_cons hk]; rfl
    rw [e, List.drop_eq_getElem_cons (show k < l.length by omega), fsizes]
    exact ⟨by have := h.size k (by omega) hk; omega, fun g hg => h.nodes g (nodesL_mem hk g hg)⟩
  · have e : (r.drop k).headD zeroFrm = zeroFrm := by rw [List.drop_of_length_le (by omega)]; rfl
    rw [e]
    exact ⟨by unfold zeroFrm; rw [leaf_size]; omega, leaf_nodes 0⟩
theorem node_sm {kind kind' : Int} {name name' : Bs} {n n' : Int} {terms : List Trm} {binds : List Bnd} {l r : List Frm} (h : FrmSm (.mk kind name n terms binds l)) (hl : r.length = l.length) (hn : name'.length ≤ name.length ∨ name'.length ≤ 2) : FrmSm (.mk kind' name' n' terms binds r) := by
  obtain ⟨h1, h2, h3, h4, h5, h6⟩ := h
  simp only [Frm.terms, Frm.binds, Frm.l, Frm.name] at h1 h2 h3 h4 h5 h6
  exact ⟨h1, h2, by simpa [Frm.l, hl] using h3, by simp only [Frm.name]; omega, h5, h6⟩
theorem rightNode_fit {kind : Int} {name : Bs} {n : Int} {terms : List Trm} {binds : List Bnd} {l same flip : List Frm} (turn : Bool) (h : ∀ g ∈ nodesF (.mk kind name n terms binds l), FrmSm g) (hs : NnfL l same) (hf : NnfL l flip) :
    (rightNode kind name n terms binds l same flip turn).size ≤ 3 * (Frm.mk kind name n terms binds l).size ∧ ∀ g ∈ nodesF (rightNode kind name n terms binds l same flip turn), FrmSm g := by
  have h0 := h _ (by rw [nodesF]; exact List.mem_cons_self)
  have hl : ∀ g ∈ nodesL l, FrmSm g := fun g hg => h g (by rw [nodesF]; exact List.mem_cons_of_mem _ hg)
  rw [Frm.size]
  unfold rightNode
  split
  · exact ⟨by unfold noFrm; rw [leaf_size]; omega, leaf_nodes 2⟩
  split
  · exact ⟨by unfold yesFrm; rw [leaf_size]; omega, leaf_nodes 1⟩
  split
  · have := nnfL_head hf 0
    rw [List.drop_zero, List.drop_zero] at this
    exact ⟨by omega, this.2⟩
  split
  · have a := nnfL_head hf 0
    have b := nnfL_head hs 1
    rw [List.drop_zero, List.drop_zero] at a
    have hz : (flip.headD zeroFrm).size + ((same.drop 1).headD zeroFrm).size ≤ 3 * fsizes l + 2 := by
      cases l with
      | nil => simp only [List.drop_nil, fsizes] at a b ⊢; omega
      | cons x r =>
        cases flip with
        | nil => have := hf.len; simp at this
        | cons y q =>
          have hx := hf.size 0 (by simp) (by simp)
          simp only [List.getElem_cons_zero] at hx
          simp only [List.drop_succ_cons, List.drop_zero] at b
          rw [fsizes, List.headD_cons]
          omega
    refine ⟨by rw [Frm.size, fsizes, fsizes, fsizes]; omega, fun g hg => ?_⟩
    rw [nodesF, nodesL, nodesL, nodesL, List.append_nil] at hg
    rcases List.mem_cons.1 hg with rfl | hg
    · exact ⟨by simp [Frm.terms], by simp [Frm.binds], by simp [Frm.l], by simp [Frm.name], by simp [Frm.terms], by simp [Frm.binds]⟩
    · rcases List.mem_append.1 hg with hg | hg
      · exact a.2 g hg
      · exact b.2 g hg
  split
  · refine ⟨by rw [Frm.size, fsizes, fsizes, Frm.size]; omega, fun g hg => ?_⟩
    rw [nodesF, nodesL, nodesL, List.append_nil] at hg
    rcases List.mem_cons.1 hg with rfl | hg
    · exact ⟨by simp [Frm.terms], by simp [Frm.binds], by simp [Frm.l], by simp [Frm.name], by simp [Frm.terms], by simp [Frm.binds]⟩
    · exact h g hg
  · have hn : ∀ (c : Bool), (if c then negS name else name).length ≤ name.length ∨ (if c then negS name else name).length ≤ 2 := fun c => by
      split
      · exact .inr (negS_len name)
      · exact .inl (Nat.le_refl _)
    have hx : NnfL l (if (turn && countK kind) = true then flip else same) := by
      split
      · exact hf
      · exact hs
    refine ⟨by rw [Frm.size]; have := hx.sizes; omega, fun g hg => ?_⟩
    rw [nodesF] at hg
    rcases List.mem_cons.1 hg with rfl | hg
    · exact node_sm h0 hx.len (hn _)
    · exact hx.nodes g hg
mutual
theorem right_fit : ∀ (f : Frm) (turn : Bool), (∀ g ∈ nodesF f, FrmSm g) → (rightF f turn).size ≤ 3 * f.size ∧ ∀ g ∈ nodesF (rightF f turn), FrmSm g
  | .mk kind name n terms binds l, turn, h => by
    rw [rightF]
    have hl : ∀ g ∈ nodesL l, FrmSm g := fun g hg => h g (by rw [nodesF]; exact List.mem_cons_of_mem _ hg)
    exact rightNode_fit turn h (rightL_fit l turn hl) (rightL_fit l (!turn) hl)
theorem rightL_fit : ∀ (l : List Frm) (turn : Bool), (∀ g ∈ nodesL l, FrmSm g) → NnfL l (rightL l turn)
  | [], turn, _ => by
    rw [rightL]
    exact ⟨rfl, fun j h => by simp at h, by rw [fsizes]; omega, fun g hg => by rw [nodesL] at hg; cases hg⟩
  | f :: r, turn, h => by
    have h1 := right_fit f turn (fun g hg => h g (by rw [nodesL]; exact List.mem_append_left _ hg))
    have h2 := rightL_fit r turn (fun g hg => h g (by rw [nodesL]; exact List.mem_append_right _ hg))
    rw [rightL]
    refine ⟨by rw [List.length_cons, List.length_cons, h2.len], fun j hj hj' => ?_, by rw [fsizes, fsizes]; have := h1.1; have := h2.sizes; omega, fun g hg => ?_⟩
    · cases j with
      | zero => exact h1.1
      | succ j => exact h2.size j (by simpa using hj) (by simpa using hj')
    · rw [nodesL] at hg
      rcases List.mem_append.1 hg with hg | hg
      · exact h1.2 g hg
      · exact h2.nodes g hg
end
theorem FrmFit.right {f : Frm} (h : FrmFit f) (hs : f.size ≤ 600000) (turn : Bool) : FrmFit (rightF f turn) :=
  ⟨by have := (right_fit f turn h.nodes).1; omega, (right_fit f turn h.nodes).2⟩
/-- What formula.Nnf answers fits. -/
theorem FrmFit.nnf {f : Frm} (h : FrmFit f) : FrmFit (nnfF f).1 := by
  unfold nnfF
  split
  · exact ⟨by unfold zeroFrm; rw [leaf_size]; omega, leaf_nodes 0⟩
  · rename_i hc
    have hz := frmCheck_zero.1 (Decidable.byContradiction hc)
    exact h.right (by have := hz.2.1; omega) false
end Go.Proofs.YtlfjjokcbeaekaaGreatDoor

/- formula.Nnf. (written by tools/gen_nnf.py) -/
namespace Go.Proofs.YtlfjjokcbeaekaaGreatDoor
open Go.RowKit Go.Chalk
/-- What formula.Nnf answers. -/
def NnfPost (w : World) (r : Frm × Int) (e : Ending) (w' : World) : Prop := ∃ u : FrmA, e = .returned (.tuple #[ndV (r.1, u), .int .i64 r.2]) ∧ FrmIn w' (· < w'.heap.size) r.1 u ∧ Below w.heap.size w w'
theorem NnfPost.of {w W : World} {B : Nat} {r : Frm} {c : Int} {u : FrmA} {e : Ending} (h1 : e = .returned (.tuple #[ndV (r, u), .int .i64 c])) (h2 : FrmIn W (Nw B w W) r u ∧ Below w.heap.size w W) : NnfPost w (r, c) e W :=
  ⟨u, h1, h2.1.mono (fun _ hk => hk.2), h2.2⟩

set_option maxRecDepth 100000 in
set_option maxHeartbeats 4000000 in
theorem nnf_any (f : Frm) (x : FrmA) (w : World) (hx : FrmIn w (· < w.heap.size) f x) (hf : FrmFit f) (hg : G2 w) :
    Calls Tryz.prog 23 #[ndV (f, x)] w (NnfPost w (nnfF f)) := by
  have HCK := Lib.hid (fun (W : World) (hW : Below w.heap.size w W) => fcheck_any f x W (hx.later hW hW.size) hf (hg.gg.below hW))
  have HRT := Lib.hid (fun (hc : frmCheck f = 0) (W : World) (hW : Below w.heap.size w W) => right_any f.size f x false W w.heap.size (Nat.le_refl _) hW.size (hg.below hW) hf (frmCheck_zero.1 hc).1 (hx.agree (agree_of_below hW)))
  obtain ⟨W0, hW0⟩ : ∃ W0, W0 = (w.alloc (.cells (x.cells f).toArray 37)).alloc (.cells #[.int .i64 0, .string ⟨#[]⟩, .int .i64 0, .slice none 0 0, .slice none 0 0, .slice none 0 0] 37) := ⟨_, rfl⟩
  have hb0 : Below w.heap.size w W0 := by rw [hW0]; exact ((Below.refl _ _).alloc (Nat.le_refl _) _).alloc (by first | (simp; done) | (simp; omega)) _
  have hq0 : FrmBox W0 (w.heap.size) f x := by rw [hW0]; unfold FrmBox; rw [heap_get, if_neg (by first | (simp; done) | (simp; omega)), heap_get, if_pos (by first | rfl | (simp; done))]
  have hq1 : W0.heap[w.heap.size + 1]? = some (.cells #[.int .i64 0, .string ⟨#[]⟩, .int .i64 0, .slice none 0 0, .slice none 0 0, .slice none 0 0] 37 (0, 0)) := by rw [hW0]; rw [heap_get, if_pos (by first | rfl | (simp; done))]
  have HE : Hid (∀ w', Below W0.heap.size W0 w' → Below w.heap.size w w' ∧ (w'.cell? ⟨w.heap.size, 0, none⟩ = some (.int .i64 f.kind) ∧ w'.cell? ⟨w.heap.size, 1, none⟩ = some (.string ⟨f.name.toArray⟩) ∧ w'.cell? ⟨w.heap.size, 2, none⟩ = some (.int .i64 f.n) ∧ w'.cell? ⟨w.heap.size, 3, none⟩ = some (.slice x.t.a f.terms.length x.t.cap) ∧ w'.cell? ⟨w.heap.size, 4, none⟩ = some (.slice x.b.a f.binds.length x.b.cap) ∧ w'.cell? ⟨w.heap.size, 5, none⟩ = some (.slice x.l.a f.l.length x.l.cap)) ∧ w'.heap[w.heap.size + 1]? = some (.cells #[.int .i64 0, .string ⟨#[]⟩, .int .i64 0, .slice none 0 0, .slice none 0 0, .slice none 0 0] 37 (0, 0))) := Lib.hid (fun W hW =>
    ⟨hb0.trans (hW.mono hb0.size), (hq0.below hW).cells, (hW.block _ (Array.getElem?_eq_some_iff.1 hq1).1).trans hq1⟩)
  have HB0 := Lib.hid hb0
  have HZ0 : Hid (W0.heap.size = w.heap.size + 2) := Lib.hid (by rw [hW0]; simp)
  have HW0 := Lib.hid hW0
  have HNE : Hid (frmCheck f ≠ 0 → nnfF f = (zeroFrm, frmCheck f)) := Lib.hid (fun h => by unfold nnfF; rw [if_pos h])
  have HEQ : Hid (frmCheck f = 0 → nnfF f = (rightF f false, 0)) := Lib.hid (fun h => by unfold nnfF; rw [if_neg (fun c => c h)])
  clear hb0 hq0 hq1 hW0 hx hf hg
  generalize nnfF f = nr at HNE HEQ ⊢
  generalize rightF f false = rr at HRT HEQ
  generalize frmCheck f = fc at HCK HRT HNE HEQ
  simp only [ndV, FrmA.cells, SlA.val] at HCK HRT HW0 HE ⊢
  go_enter Tryz.func23, Tryz.ntmps23
  go_wp2_with fail
  rw [← HW0.out]
  refine (HCK.out _ HB0.out).mono ?_
  rintro e w1 ⟨rfl, hb1⟩
  have H1 := Lib.hid hb1
  clear hb1
  obtain ⟨_, ⟨f0, f1, f2, f3, f4, f5⟩, y5⟩ := HE.out w1 H1.out
  by_cases hc : fc = 0
  rotate_left
  · obtain rfl := HNE.out hc
    have fz0 : w1.frozen? ⟨w.heap.size + 1, 0, none⟩ = false := frozen_of_heap y5
    have x0 : w1.cell? ⟨w.heap.size + 1, 0, none⟩ = some (.int .i64 0) := cell_of_heap y5 rfl
    have fz1 : w1.frozen? ⟨w.heap.size + 1, 1, none⟩ = false := frozen_of_heap y5
    have x1 : w1.cell? ⟨w.heap.size + 1, 1, none⟩ = some (.string ⟨#[]⟩) := cell_of_heap y5 rfl
    have fz2 : w1.frozen? ⟨w.heap.size + 1, 2, none⟩ = false := frozen_of_heap y5
    have x2 : w1.cell? ⟨w.heap.size + 1, 2, none⟩ = some (.int .i64 0) := cell_of_heap y5 rfl
    have fz3 : w1.frozen? ⟨w.heap.size + 1, 3, none⟩ = false := frozen_of_heap y5
    have x3 : w1.cell? ⟨w.heap.size + 1, 3, none⟩ = some (.slice none 0 0) := cell_of_heap y5 rfl
    have fz4 : w1.frozen? ⟨w.heap.size + 1, 4, none⟩ = false := frozen_of_heap y5
    have x4 : w1.cell? ⟨w.heap.size + 1, 4, none⟩ = some (.slice none 0 0) := cell_of_heap y5 rfl
    have fz5 : w1.frozen? ⟨w.heap.size + 1, 5, none⟩ = false := frozen_of_heap y5
    have x5 : w1.cell? ⟨w.heap.size + 1, 5, none⟩ = some (.slice none 0 0) := cell_of_heap y5 rfl
    clear y5
    go_wp2_with fail
    refine bodyPost_ret (v := .tuple #[.agg #[.int .i64 0, .string ⟨#[]⟩, .int .i64 0, .slice none 0 0, .slice none 0 0, .slice none 0 0], .int .i64 fc]) (by simp [results, Tryz.results23, go_sem, *]) rfl ?_
    rw [put6_eq]
    exact NnfPost.of (B := w.heap.size) rfl (put6_fin (G := fun _ => False) (HE.out _ H1.out).1 (Nat.le_succ _) (leaf_in _ 0 (i64_of (by decide))) (fun h => h) (fun _ h => h.elim))
  · subst hc
    obtain rfl := HEQ.out rfl
    have HRC := Lib.hid (HRT.out rfl)
    clear y5 HRT HCK HNE HEQ
    obtain ⟨rk, rn, rm, rt, rb, rl⟩ := rr
    go_wp2_with fail
    refine (HRC.out _ (HE.out _ H1.out).1).mono ?_
    rintro e w2 ⟨u, rfl, hu, hb2⟩
    have HU := Lib.hid (And.intro hu hb2)
    have H2 := Lib.hid (H1.out.trans (hb2.mono H1.out.size))
    clear hb2 hu f0 f1 f2 f3 f4 f5
    obtain ⟨_, ⟨f0, f1, f2, f3, f4, f5⟩, y5⟩ := HE.out w2 H2.out
    clear f0 f1 f2 f3 f4 f5
    have fz0 : w2.frozen? ⟨w.heap.size + 1, 0, none⟩ = false := frozen_of_heap y5
    have x0 : w2.cell? ⟨w.heap.size + 1, 0, none⟩ = some (.int .i64 0) := cell_of_heap y5 rfl
    have fz1 : w2.frozen? ⟨w.heap.size + 1, 1, none⟩ = false := frozen_of_heap y5
    have x1 : w2.cell? ⟨w.heap.size + 1, 1, none⟩ = some (.string ⟨#[]⟩) := cell_of_heap y5 rfl
    have fz2 : w2.frozen? ⟨w.heap.size + 1, 2, none⟩ = false := frozen_of_heap y5
    have x2 : w2.cell? ⟨w.heap.size + 1, 2, none⟩ = some (.int .i64 0) := cell_of_heap y5 rfl
    have fz3 : w2.frozen? ⟨w.heap.size + 1, 3, none⟩ = false := frozen_of_heap y5
    have x3 : w2.cell? ⟨w.heap.size + 1, 3, none⟩ = some (.slice none 0 0) := cell_of_heap y5 rfl
    have fz4 : w2.frozen? ⟨w.heap.size + 1, 4, none⟩ = false := frozen_of_heap y5
    have x4 : w2.cell? ⟨w.heap.size + 1, 4, none⟩ = some (.slice none 0 0) := cell_of_heap y5 rfl
    have fz5 : w2.frozen? ⟨w.heap.size + 1, 5, none⟩ = false := frozen_of_heap y5
    have x5 : w2.cell? ⟨w.heap.size + 1, 5, none⟩ = some (.slice none 0 0) := cell_of_heap y5 rfl
    clear y5
    simp only [ndV, FrmA.cells, SlA.val, Frm.kind, Frm.name, Frm.n, Frm.terms, Frm.binds, Frm.l]
    go_wp2_with fail
    refine bodyPost_ret (v := .tuple #[.agg #[.int .i64 rk, .string ⟨rn.toArray⟩, .int .i64 rm, .slice u.t.a rt.length u.t.cap, .slice u.b.a rb.length u.b.cap, .slice u.l.a rl.length u.l.cap], .int .i64 0]) (by simp [results, Tryz.results23, go_sem, *]) rfl ?_
    rw [put6_eq]
    have z1 := (HE.out _ H1.out).1.size
    have z2 := HZ0.out
    have z3 := H1.out.size
    exact NnfPost.of (B := w.heap.size) rfl (put6_fin (G := Nw w.heap.size w1 w2) (HE.out _ H2.out).1 (Nat.le_succ _) HU.out.1 (fun h => by have := h.1; omega) (fun k hk => ⟨hk.1.imp id (fun h => by omega), hk.2⟩))
end Go.Proofs.YtlfjjokcbeaekaaGreatDoor

/- EvalNnfEquivalent: where the listed variables hold what their text lays, the law returns true. (written by tools/gen_nnf.py) -/
namespace Go.Proofs.YtlfjjokcbeaekaaGreatDoor
open Go.RowKit Go.Chalk
/-- The plain law, as the walk asks for it. -/
theorem nnf_plain (s : Schl) (l : List Plc) (env : List Ev) (f : Frm) (A X Y : Bool × Int) (g h : Int) (hA : A = evHolds s l env f) (hX : X = evHolds s l env (nnfF f).1) (hY : Y = evHolds s l env (nnfF (oneF 10 0 [] f)).1) (hg : g = (nnfF f).2) (hh : h = (nnfF (oneF 10 0 [] f)).2) :
    (A.2 ≠ 0 → A.1 = false) ∧ (A.2 = 0 → g = 0 ∧ (X.2 = 2 ∨ (X.2 = 0 ∧ X.1 = A.1)) ∧ (h = 2 ∨ (h ≠ 2 ∧ Y.2 = 2) ∨ (h = 0 ∧ Y.2 = 0 ∧ Y.1 = !A.1))) := by
  have e : oneF 10 0 [] f = notFrm f := rfl
  rw [e] at hY hh
  subst hA hX hY hg hh
  have k := nnf_law s l env f
  refine ⟨fun h1 => evHolds_false h1, fun h1 => ?_⟩
  rw [if_neg (by simpa using h1)] at k
  simp only [Bool.and_eq_true, Bool.or_eq_true, beq_iff_eq, bne_iff_ne] at k
  obtain ⟨⟨k1, k2⟩, k3⟩ := k
  refine ⟨k1, ?_, ?_⟩
  · rcases k2 with k2 | ⟨k2, k4⟩
    · exact .inl k2
    · exact .inr ⟨k2, k4.symm⟩
  · by_cases h2 : (nnfF (notFrm f)).2 = 2
    · exact .inl h2
    · rcases k3 with (k3 | k3) | ⟨⟨k3, k4⟩, k5⟩
      · exact absurd k3 h2
      · exact .inr (.inl ⟨h2, k3⟩)
      · refine .inr (.inr ⟨k3, k4, ?_⟩)
        revert k5
        cases (evHolds s l env f).1 <;> cases (evHolds s l env (nnfF (notFrm f)).1).1 <;> simp

theorem mk_kind (k n : Int) (nm : Bs) (t : List Trm) (b : List Bnd) (l : List Frm) : (Frm.mk k nm n t b l).kind = k := rfl
theorem mk_name (k n : Int) (nm : Bs) (t : List Trm) (b : List Bnd) (l : List Frm) : (Frm.mk k nm n t b l).name = nm := rfl
theorem mk_n (k n : Int) (nm : Bs) (t : List Trm) (b : List Bnd) (l : List Frm) : (Frm.mk k nm n t b l).n = n := rfl
theorem mk_terms (k n : Int) (nm : Bs) (t : List Trm) (b : List Bnd) (l : List Frm) : (Frm.mk k nm n t b l).terms = t := rfl
theorem mk_binds (k n : Int) (nm : Bs) (t : List Trm) (b : List Bnd) (l : List Frm) : (Frm.mk k nm n t b l).binds = b := rfl
theorem mk_l (k n : Int) (nm : Bs) (t : List Trm) (b : List Bnd) (l : List Frm) : (Frm.mk k nm n t b l).l = l := rfl
theorem alloc_new {W W' : World} {f : Frm} {u : FrmA} (hW : W' = W.alloc (.cells #[.int .i64 f.kind, .string ⟨f.name.toArray⟩, .int .i64 f.n, .slice u.t.a f.terms.length u.t.cap, .slice u.b.a f.binds.length u.b.cap, .slice u.l.a f.l.length u.l.cap] 37)) (hu : FrmIn W (· < W.heap.size) f u) :
    Below W.heap.size W W' ∧ FrmBox W' W.heap.size f u ∧ FrmIn W' (· < W'.heap.size) f u := by
  have hb : Below W.heap.size W W' := by
    rw [hW]
    exact (Below.refl _ _).alloc (Nat.le_refl _) _
  refine ⟨hb, ?_, hu.later hb hb.size⟩
  rw [hW]
  unfold FrmBox
  rw [heap_get, if_pos rfl]

set_option maxRecDepth 100000 in
set_option maxHeartbeats 16000000 in
theorem nnf_walk (s : Schl) (x : SchA) (l : List Plc) (y : SlA) (env : List Ev) (z : SlA) (f : Frm) (fa : FrmA) (w : World) (hI : ItoaAt) (hf : SchFit s) (hff : FrmFit f) (hfs : f.size ≤ 1800000) (hg2 : G2 w) (hs : SchIn w (· < w.heap.size) s x) (hy : SlIn w (· < w.heap.size) (l.map Plc.toD) y) (hl : l.length ≤ 2000000)
    (hz : SlIn w (· < w.heap.size) (env.map Ev.toD) z) (hel : env.length ≤ 1500000) (hmax : ∀ e ∈ env, e.name.length ≤ 4000000) (hx : FrmIn w (· < w.heap.size) f fa) :
    Calls Tryz.prog 8 #[.agg (x.cells s).toArray, .agg #[.slice y.a l.length y.cap], .slice z.a env.length z.cap, ndV (f, fa)] w fun e w' => e = .returned (.bool true) ∧ Below w.heap.size w w' := by
  have hg := hg2.gg
  have HLV := Lib.hid (fun (W : World) (hW : Below w.heap.size w W) => live_any W hI (hg.below hW))
  have HFW := Lib.hid (fun (q : Frm) (qa : FrmA) (hqf : FrmFit q) (hq : FrmIn w (· < w.heap.size) q qa) (W : World) (hW : Below w.heap.size w W) => rfew9_any s x l y env z q qa W hf.toSchSmall hqf (hs.later hW hW.size) hl (hz.later hW hW.size) (by omega) (hq.later hW hW.size))
  have HHD := Lib.hid (fun (q : Frm) (qa : FrmA) (hqf : FrmFit q) (W : World) (hW : Below w.heap.size w W) (hq : FrmIn W (· < W.heap.size) q qa) => eholds_any s x l y env z q qa W hI hf hqf (hg.below hW) (hs.later hW hW.size) (hy.later hW hW.size) hl (hz.later hW hW.size) (by omega) hmax hq)
  have HXF := Lib.hid (And.intro hx hff)
  have HNN := Lib.hid (fun (q : Frm) (qa : FrmA) (hqf : FrmFit q) (W : World) (hW : Below w.heap.size w W) (hq : FrmIn W (· < W.heap.size) q qa) => nnf_any q qa W hq hqf (hg2.below hW))
  have HN1 := Lib.hid (hff.oneF (k := 10) (n := 0) (binds := []) (by omega) (by simp) (fun _ h => by cases h))
  have HFN := Lib.hid (And.intro hff.nnf HN1.out.nnf)
  have HPL := Lib.hid (nnf_plain s l env f _ _ _ _ _ rfl rfl rfl rfl rfl)
  obtain ⟨W0, hW0⟩ : ∃ W0, W0 = ((w.alloc (.cells (x.cells s).toArray 28)).alloc (.cells #[.slice y.a l.length y.cap] 31)).alloc (.cells (fa.cells f).toArray 37) := ⟨_, rfl⟩
  have hb0 : Below w.heap.size w W0 := by rw [hW0]; exact (((Below.refl _ _).alloc (Nat.le_refl _) _).alloc (by first | (simp; done) | (simp; omega)) _).alloc (by first | (simp; done) | (simp; omega)) _
  have hq0 : SchBox W0 w.heap.size s x := by rw [hW0]; unfold SchBox; rw [heap_get, if_neg (by first | (simp; done) | (simp; omega)), heap_get, if_neg (by first | (simp; done) | (simp; omega)), heap_get, if_pos (by first | rfl | (simp; done))]
  have hq1 : W0.heap[w.heap.size + 1]? = some (.cells #[.slice y.a l.length y.cap] 31 (0, 0)) := by rw [hW0]; rw [heap_get, if_neg (by first | (simp; done) | (simp; omega)), heap_get, if_pos (by first | rfl | (simp; done))]
  have hq2 : FrmBox W0 (w.heap.size + 1 + 1) f fa := by rw [hW0]; unfold FrmBox; rw [heap_get, if_pos (by first | rfl | (simp; done))]
  have HE : Hid (∀ w', Below W0.heap.size W0 w' → Below w.heap.size w w' ∧ (w'.cell? ⟨w.heap.size, 0, none⟩ = some (.slice x.slots.a s.slots.length x.slots.cap) ∧ w'.cell? ⟨w.heap.size, 1, none⟩ = some (.slice x.rooms.a s.rooms.length x.rooms.cap) ∧ w'.cell? ⟨w.heap.size, 2, none⟩ = some (.slice x.people.a s.people.length x.people.cap) ∧ w'.cell? ⟨w.heap.size, 3, none⟩ = some (.slice x.groups.a s.groups.length x.groups.cap) ∧ w'.cell? ⟨w.heap.size, 4, none⟩ = some (.slice x.lessons.a s.lessons.length x.lessons.cap)) ∧ w'.cell? ⟨w.heap.size + 1, 0, none⟩ = some (.slice y.a l.length y.cap) ∧ (w'.cell? ⟨w.heap.size + 1 + 1, 0, none⟩ = some (.int .i64 f.kind) ∧ w'.cell? ⟨w.heap.size + 1 + 1, 1, none⟩ = some (.string ⟨f.name.toArray⟩) ∧ w'.cell? ⟨w.heap.size + 1 + 1, 2, none⟩ = some (.int .i64 f.n) ∧ w'.cell? ⟨w.heap.size + 1 + 1, 3, none⟩ = some (.slice fa.t.a f.terms.length fa.t.cap) ∧ w'.cell? ⟨w.heap.size + 1 + 1, 4, none⟩ = some (.slice fa.b.a f.binds.length fa.b.cap) ∧ w'.cell? ⟨w.heap.size + 1 + 1, 5, none⟩ = some (.slice fa.l.a f.l.length fa.l.cap))) := Lib.hid (fun W hW =>
    ⟨hb0.trans (hW.mono hb0.size), (hq0.below hW).cells, cell_of_heap ((hW.block _ (Array.getElem?_eq_some_iff.1 hq1).1).trans hq1) rfl, (hq2.below hW).cells⟩)
  have HB0 := Lib.hid hb0
  have HW0 := Lib.hid hW0
  clear hb0 hq0 hq1 hq2 hW0 hI hf hff hg hg2 hs hy hl hz hel hmax hx
  generalize hA : evHolds s l env f = A at HPL
  generalize hX : evHolds s l env (nnfF f).1 = X at HPL
  generalize hY : evHolds s l env (nnfF (oneF 10 0 [] f)).1 = Y at HPL
  have HEQ := Lib.hid (And.intro hA (And.intro hX hY))
  clear hA hX hY
  generalize hp : nnfF f = p at HPL HEQ HFN
  generalize hq : nnfF (oneF 10 0 [] f) = q at HPL HEQ HFN
  have HP := Lib.hid (And.intro hp hq)
  clear hp hq
  obtain ⟨⟨pk, pn, pm, pt, pb, pl⟩, pc⟩ := p
  obtain ⟨⟨qk, qn, qm, qt, qb, ql⟩, qc⟩ := q
  obtain ⟨aa, ae⟩ := A
  obtain ⟨xa, xe⟩ := X
  obtain ⟨ya, ye⟩ := Y
  simp only [ndV, SchA.cells, FrmA.cells, SlA.val] at HFW HHD HNN HW0 HE ⊢
  go_enter Tryz.func8, Tryz.ntmps8
  go_wp2_with fail
  rw [← HW0.out]
  refine (HLV.out _ HB0.out).mono ?_
  rintro e w1 ⟨rfl, hb1⟩
  have H1 := Lib.hid hb1
  clear hb1
  obtain ⟨_, ⟨c0, c1, c2, c3, c4⟩, d0, ⟨f0, f1, f2, f3, f4, f5⟩⟩ := HE.out w1 H1.out
  go_wp2_with fail
  refine (HFW.out f fa HXF.out.2 HXF.out.1 _ (HE.out _ H1.out).1).mono ?_
  rintro e w2 ⟨⟨b2, rfl⟩, hb2⟩
  have H2 := Lib.hid (H1.out.trans (hb2.mono H1.out.size))
  clear hb2 c0 c1 c2 c3 c4 d0 f0 f1 f2 f3 f4 f5
  obtain ⟨_, ⟨c0, c1, c2, c3, c4⟩, d0, ⟨f0, f1, f2, f3, f4, f5⟩⟩ := HE.out w2 H2.out
  cases b2
  · go_wp2_with fail
    go_ret
    exact ⟨rfl, (HE.out _ H2.out).1⟩
  go_wp2_with fail
  refine (HHD.out f fa HXF.out.2 _ (HE.out _ H2.out).1 (HXF.out.1.later (HE.out _ H2.out).1 (HE.out _ H2.out).1.size)).mono ?_
  rw [HEQ.out.1]
  rintro e w3 ⟨rfl, hb3⟩
  have H3 := Lib.hid (H2.out.trans (hb3.mono H2.out.size))
  clear hb3 c0 c1 c2 c3 c4 d0 f0 f1 f2 f3 f4 f5
  obtain ⟨_, ⟨c0, c1, c2, c3, c4⟩, d0, ⟨f0, f1, f2, f3, f4, f5⟩⟩ := HE.out w3 H3.out
  go_wp2_with fail
  refine (HNN.out f fa HXF.out.2 _ (HE.out _ H3.out).1 (HXF.out.1.later (HE.out _ H3.out).1 (HE.out _ H3.out).1.size)).mono ?_
  rw [HP.out.1]
  rintro e w4 ⟨u, rfl, hu, hb4⟩
  have K4 := Lib.hid hu
  have H4 := Lib.hid (H3.out.trans (hb4.mono H3.out.size))
  clear hu hb4 c0 c1 c2 c3 c4 d0 f0 f1 f2 f3 f4 f5
  simp only [ndV, FrmA.cells, SlA.val, mk_kind, mk_name, mk_n, mk_terms, mk_binds, mk_l]
  go_upto_region 7 with fail
  obtain ⟨w5, hw5⟩ : ∃ W, W = w4.alloc (.cells #[.int .i64 pk, .string ⟨pn.toArray⟩, .int .i64 pm, .slice u.t.a pt.length u.t.cap, .slice u.b.a pb.length u.b.cap, .slice u.l.a pl.length u.l.cap] 37) := ⟨_, rfl⟩
  rw [← hw5]
  have N5 := Lib.hid (alloc_new (f := (.mk pk pn pm pt pb pl)) (u := u) hw5 K4.out)
  have H5 := Lib.hid (H4.out.trans (N5.out.1.mono H4.out.size))
  clear hw5
  obtain ⟨_, ⟨c0, c1, c2, c3, c4⟩, d0, ⟨f0, f1, f2, f3, f4, f5⟩⟩ := HE.out w5 H5.out
  go_wp2_with fail
  refine (lone_any 10 0 [] f ⟨none, 0, 0, 0⟩ fa w5 0 (Nat.zero_le _) (i64_of (by decide)) (i64_of (by decide)) (SlIn.nil (Nat.zero_le _) _ _ _) (HXF.out.1.later (HE.out _ H5.out).1 (HE.out _ H5.out).1.size).fr).mono ?_
  rintro e w6 ⟨v, rfl, hv, hb6⟩
  have K6 := Lib.hid hv.all
  have H6 := Lib.hid (H5.out.trans (hb6.mono H5.out.size))
  have M6 := Lib.hid hb6
  clear hv hb6
  clear c0 c1 c2 c3 c4 d0 f0 f1 f2 f3 f4 f5
  go_wp2_with fail
  refine (HNN.out _ v HN1.out _ (HE.out _ H6.out).1 K6.out).mono ?_
  rw [HP.out.2]
  rintro e w7 ⟨q, rfl, hq, hb7⟩
  have K7 := Lib.hid hq
  have H7 := Lib.hid (H6.out.trans (hb7.mono H6.out.size))
  have M7 := Lib.hid (M6.out.trans (hb7.mono M6.out.size))
  clear hq hb7
  simp only [ndV, FrmA.cells, SlA.val, mk_kind, mk_name, mk_n, mk_terms, mk_binds, mk_l]
  go_upto_region 8 with fail
  obtain ⟨w8, hw8⟩ : ∃ W, W = w7.alloc (.cells #[.int .i64 qk, .string ⟨qn.toArray⟩, .int .i64 qm, .slice q.t.a qt.length q.t.cap, .slice q.b.a qb.length q.b.cap, .slice q.l.a ql.length q.l.cap] 37) := ⟨_, rfl⟩
  rw [← hw8]
  have N8 := Lib.hid (alloc_new (f := (.mk qk qn qm qt qb ql)) (u := q) hw8 K7.out)
  have H8 := Lib.hid (H7.out.trans (N8.out.1.mono H7.out.size))
  clear hw8
  have M8 := Lib.hid (M7.out.trans (N8.out.1.mono M7.out.size))
  by_cases hA0 : ae = 0
  rotate_left
  · obtain rfl := HPL.out.1 hA0
    have hA1 : (ae != 0) = true := by simpa using hA0
    clear hA0
    go_wp2_with fail
    go_ret
    exact ⟨rfl, (HE.out _ H8.out).1⟩
  subst hA0
  obtain ⟨hpc, hX, hY⟩ := HPL.out.2 rfl
  have HXY := Lib.hid (And.intro hX hY)
  subst hpc
  clear hX hY
  have e1 : evHolds s l env (.mk pk pn pm pt pb pl) = (xa, xe) := HEQ.out.2.1
  have e2 : evHolds s l env (.mk qk qn qm qt qb ql) = (ya, ye) := HEQ.out.2.2
  have HE1 := Lib.hid e1
  have HE2 := Lib.hid e2
  clear e1 e2
  obtain ⟨g0, g1, g2, g3, g4, g5⟩ := (N5.out.2.1.below M8.out).cells
  simp only [mk_kind, mk_name, mk_n, mk_terms, mk_binds, mk_l] at g0 g1 g2 g3 g4 g5
  obtain ⟨_, ⟨c0, c1, c2, c3, c4⟩, d0, ⟨f0, f1, f2, f3, f4, f5⟩⟩ := HE.out w8 H8.out
  go_wp2_with fail
  refine (HHD.out (.mk pk pn pm pt pb pl) u HFN.out.1 _ (HE.out _ H8.out).1 (N5.out.2.2.later M8.out M8.out.size)).mono ?_
  rw [HE1.out]
  rintro e w9 ⟨rfl, hb9⟩
  have H9 := Lib.hid (H8.out.trans (hb9.mono H8.out.size))
  have M9 := Lib.hid hb9
  clear hb9 g0 g1 g2 g3 g4 g5
  clear c0 c1 c2 c3 c4 d0 f0 f1 f2 f3 f4 f5
  obtain ⟨g0, g1, g2, g3, g4, g5⟩ := (N8.out.2.1.below M9.out).cells
  simp only [mk_kind, mk_name, mk_n, mk_terms, mk_binds, mk_l] at g0 g1 g2 g3 g4 g5
  obtain ⟨_, ⟨c0, c1, c2, c3, c4⟩, d0, ⟨f0, f1, f2, f3, f4, f5⟩⟩ := HE.out w9 H9.out
  go_wp2_with fail
  refine (HHD.out (.mk qk qn qm qt qb ql) q HFN.out.2 _ (HE.out _ H9.out).1 (N8.out.2.2.later M9.out M9.out.size)).mono ?_
  rw [HE2.out]
  rintro e w10 ⟨rfl, hb10⟩
  have H10 := Lib.hid (H9.out.trans (hb10.mono H9.out.size))
  clear hb10 g0 g1 g2 g3 g4 g5
  clear c0 c1 c2 c3 c4 d0 f0 f1 f2 f3 f4 f5
  obtain ⟨hX, hY⟩ := HXY.out
  clear HXY HPL HEQ HE1 HE2 HP
  dsimp only at hX hY ⊢
  cases aa <;> simp only [Bool.not_true, Bool.not_false] at hX hY <;> rcases hX with rfl | ⟨rfl, rfl⟩ <;> rcases hY with rfl | ⟨hq2, rfl⟩ | ⟨rfl, rfl, rfl⟩
  all_goals
    try have hq3 : (qc == 2) = false := by simpa using hq2
    try clear hq2
    go_wp2_with fail
    go_ret
    exact ⟨by simp, (HE.out _ H10.out).1⟩
end Go.Proofs.YtlfjjokcbeaekaaGreatDoor
