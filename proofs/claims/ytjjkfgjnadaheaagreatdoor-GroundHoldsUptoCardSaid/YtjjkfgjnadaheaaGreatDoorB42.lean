/- Joined texts: GTreeA. -/
import Derived.Test.YtjjkfgjnadaheaaGreatDoorB38
import Derived.Test.YtjjkfgjnadaheaaGreatDoorB41
import Derived.Test.YtjjkfgjnadaheaaGreatDoorB33

/- ground's maker.tree: a quantifier. (written by tools/gen_gtree.py) -/
namespace Go.Chalk
open Go.RowKit
theorem Tr.size_mk (kind v k : Int) (ts : List Tr) : (Tr.mk kind v k ts).size = 1 + sizes ts := by rw [Tr.size]
theorem sizes_one (t : Tr) : sizes [t] = t.size := by simp [sizes]
theorem DsAt.oneT {w : World} {F : Nat -> Prop} {x : D} {cs : List Value} (h : DAt w F x cs) : DsAt w F [x] cs := by rw [DsAt]; exact ⟨cs, [], (List.append_nil _).symm, h, by rw [DsAt]⟩
theorem put4_heap {W : World} {H : Nat} {z0 z1 z2 z3 : Value} {T : TypeId} (h : W.heap[H]? = some (.cells #[z0, z1, z2, z3] T (0, 0))) (c0 c1 c2 c3 : Value) : (put4 W H 0 c0 c1 c2 c3).heap[H]? = some (.cells #[c0, c1, c2, c3] T (0, 0)) :=
  box_store (i := 3) c3 (box_store (i := 2) c2 (box_store (i := 1) c1 (box_store (i := 0) c0 h)))
end Go.Chalk
namespace Go.Proofs.YtjjkfgjnadaheaaGreatDoor
open Go.RowKit Go.Chalk
attribute [local go_sem] Oper.semAt_some
set_option maxRecDepth 100000 in
set_option maxHeartbeats 4000000 in
theorem gall_any (n : Int) (name : Bs) (terms : List Trm) (binds : List Bnd) (l : List Frm) (fa : FrmA) (env : List Ev) (z : SlA) (s : Schl) (x : SchA) (w : World) (mb left : Nat) (ts : List Tr) (hn : 0 <= n /\ n <= 1099511627776) (hm : MkB w mb s x left) (hl : left <= 65536)
    (hE : ∀ W, Below w.heap.size w W -> Calls Tryz.prog 80 #[.pointer (some ⟨mb, 0, none⟩), .slice z.a env.length z.cap, ndV (.mk 14 name n terms binds l, fa)] W (EachP s x mb left W ts)) :
    Calls Tryz.prog 38 #[.pointer (some ⟨mb, 0, none⟩), .slice z.a env.length z.cap, ndV (.mk 14 name n terms binds l, fa)] w (TreeP s x mb left w (.mk 4 0 0 ts)) := by
  have hmlt := hm.lt
  obtain ⟨W0, hW0⟩ : ∃ W0, W0 = (w.alloc (.cells (fa.cells (.mk 14 name n terms binds l)).toArray 34)).alloc (.cells #[.int .i64 0, .int .i64 0, .int .i64 0, .slice none 0 0] 39) := ⟨_, rfl⟩
  have hb0 : Below w.heap.size w W0 := by rw [hW0]; exact ((Below.refl _ _).alloc (Nat.le_refl _) _).alloc (by simp) _
  have hz0 : W0.heap.size = w.heap.size + 2 := by rw [hW0]; simp
  have hq0 : FrmBox W0 w.heap.size (.mk 14 name n terms binds l) fa := by rw [hW0]; unfold FrmBox; rw [heap_get, if_neg (by simp), heap_get, if_pos rfl]
  have hq1 : W0.heap[w.heap.size + 1]? = some (.cells #[.int .i64 0, .int .i64 0, .int .i64 0, .slice none 0 0] 39 (0, 0)) := by rw [hW0, heap_get, if_pos (by simp)]
  have HE := Lib.hid (hE W0 hb0)
  have HB := Lib.hid (And.intro hb0 (And.intro hq0 (And.intro hq1 hz0)))
  have HW0 := Lib.hid hW0
  have HN := Lib.hid hn
  have HM := Lib.hid (And.intro hm hl)
  obtain ⟨c0, c1, c2, c3, c4, c5⟩ := hq0.cells
  clear hb0 hq0 hq1 hW0 hE hn hm hl hz0
  simp only [ndV, FrmA.cells, SlA.val, Frm.kind, Frm.name, Frm.n, Frm.terms, Frm.binds, Frm.l] at HE HW0 c0 c1 c2 c3 c4 c5 ⊢
  go_enter Tryz.func38, Tryz.ntmps38
  go_wp2_with fail
  rw [<- HW0.out]
  go_wp2_with fail
  refine HE.out.mono ?_
  rintro e w1 ⟨hm1, ⟨hle, ⟨u, rfl, hu⟩, hmk⟩ | ⟨hlt, rfl, l', hmk⟩⟩
  rotate_left
  · refine ⟨rfl, (Chalk.Mod.of_below (S := fun k => k = mb) HB.out.1).trans hm1 (fun _ _ h => h), .inr ⟨?_, rfl, l', hmk⟩⟩
    simp only [Tr.size_mk, sizes_one]; omega
  clear c0 c1 c2 c3 c4 c5
  have hmw := hm1.size
  have q0 : FrmBox w1 w.heap.size (.mk 14 name n terms binds l) fa := heap_kept HB.out.2.1 hm1 (by omega)
  have q1 := heap_kept HB.out.2.2.1 hm1 (by omega)
  obtain ⟨c0, _, c2, _, _, _⟩ := q0.cells
  simp only [Frm.kind, Frm.n] at c0 c2
  have hlw : w.heap.size + 1 < w1.heap.size := (Array.getElem?_eq_some_iff.1 q1).1
  obtain ⟨l1, hl1⟩ : ∃ l1, left - sizes ts = l1 := ⟨_, rfl⟩
  have hmk1 : MkB w1 mb s x (l1 : Nat) := by rw [show ((l1 : Nat) : Int) = (left : Int) - sizes ts by omega]; exact hmk
  have HFN : Hid (∀ W', Chalk.Mod (fun k => k = mb ∨ k = w.heap.size + 1 ∨ w1.heap.size <= k) w1 W' -> Chalk.Mod (fun k => k = mb) w W' /\ SlIn W' (fun k => w.heap.size <= k /\ k < W'.heap.size) (ts.map Tr.toD) u) := Lib.hid (fun W' h => by
    have hz := h.size
    have hz0 := HB.out.2.2.2
    refine ⟨((Chalk.Mod.of_below (S := fun k => k = mb) HB.out.1).trans hm1 (fun _ _ h => h)).trans h (fun k hk h => ?_), (hu.agree (h.agree (fun k hk => ⟨hk.2, ?_⟩))).mono (fun k hk => ⟨by have := hk.1; omega, by have := hk.2; omega⟩)⟩
    · rcases h with h | h | h
      · exact h
      · omega
      · omega
    · rintro (h | h | h)
      · have := hk.1; omega
      · have := hk.1; omega
      · have := hk.2; omega)
  have HL1 := Lib.hid (And.intro hle hl1)
  have HQ1 := Lib.hid (And.intro q0 q1)
  have HMW := Lib.hid hmw
  clear hm1 hle hu hmk q0 q1 hl1 hmw
  go_wp2_with fail
  refine (part_any 4 u.a ts.length u.cap s x l1 mb w1 hmk1 (by have := HM.out.2; have := HL1.out.2; omega)).mono ?_
  rintro e w2 ⟨hm2, ⟨hp, rfl, hmk2⟩ | ⟨hp, rfl, hmk2⟩⟩
  rotate_left
  · refine ⟨rfl, (HFN.out _ (hm2.mono (fun _ h => .inl h))).1, .inr ⟨?_, rfl, _, hmk2⟩⟩
    simp only [Tr.size_mk, sizes_one]; have := HL1.out; omega
  have q2 := heap_kept HQ1.out.2 hm2 (by omega)
  have hlw2 : w.heap.size + 1 < w2.heap.size := (Array.getElem?_eq_some_iff.1 q2).1
  have x0 : w2.cell? ⟨w.heap.size + 1, 0, none⟩ = some (.int .i64 0) := cell_of_heap q2 rfl
  have f0 : w2.frozen? ⟨w.heap.size + 1, 0, none⟩ = false := frozen_of_heap q2
  have x1 : w2.cell? ⟨w.heap.size + 1, 1, none⟩ = some (.int .i64 0) := cell_of_heap q2 rfl
  have f1 : w2.frozen? ⟨w.heap.size + 1, 1, none⟩ = false := frozen_of_heap q2
  have x2 : w2.cell? ⟨w.heap.size + 1, 2, none⟩ = some (.int .i64 0) := cell_of_heap q2 rfl
  have f2 : w2.frozen? ⟨w.heap.size + 1, 2, none⟩ = false := frozen_of_heap q2
  have x3 : w2.cell? ⟨w.heap.size + 1, 3, none⟩ = some (.slice none 0 0) := cell_of_heap q2 rfl
  have f3 : w2.frozen? ⟨w.heap.size + 1, 3, none⟩ = false := frozen_of_heap q2
  have HP := Lib.hid (And.intro hm2 (And.intro hp hmk2))
  have HQ2 := Lib.hid q2
  clear hm2 hp hmk2 q2 hmk1
  go_wp2_with fail
  have hq3 := put4_heap HQ2.out (.int .i64 4) (.int .i64 0) (.int .i64 0) (.slice u.a ts.length u.cap)
  have hm3 := put4_mod w2 (w.heap.size + 1) 0 (.int .i64 4) (.int .i64 0) (.int .i64 0) (.slice u.a ts.length u.cap)
  unfold put4 at hq3 hm3
  simp only [Nat.zero_add] at hq3 hm3
  generalize (((w2.setCell _ _).setCell _ _).setCell _ _).setCell _ _ = W3 at hq3 hm3 ⊢
  have HY := Lib.hid (And.intro hq3 hm3)
  have y0 : W3.cell? ⟨w.heap.size + 1, 0, none⟩ = some (.int .i64 4) := cell_of_heap hq3 rfl
  have y1 : W3.cell? ⟨w.heap.size + 1, 1, none⟩ = some (.int .i64 0) := cell_of_heap hq3 rfl
  have y2 : W3.cell? ⟨w.heap.size + 1, 2, none⟩ = some (.int .i64 0) := cell_of_heap hq3 rfl
  have y3 : W3.cell? ⟨w.heap.size + 1, 3, none⟩ = some (.slice u.a ts.length u.cap) := cell_of_heap hq3 rfl
  clear hq3 hm3
  refine bodyPost_ret (v := .agg #[.int .i64 4, .int .i64 0, .int .i64 0, .slice u.a ts.length u.cap]) (by simp [results, Tryz.results38, go_sem, y0, y1, y2, y3]) rfl ?_
  obtain ⟨g1, g2⟩ := HFN.out W3 ((HP.out.1.mono (fun _ h => .inl h)).trans HY.out.2 (fun _ _ h => .inr (.inl h)))
  have hsz : (Tr.mk 4 0 0 ts).size = 1 + sizes ts := Tr.size_mk _ _ _ _
  have hq := HL1.out
  have hp := HP.out.2.1
  refine ⟨g1, .inl ⟨by omega, ⟨_, rfl, Tr.close (i64_small (by decide) (by decide)) (i64_small (by decide) (by decide)) (i64_small (by decide) (by decide)) g2⟩, ?_⟩⟩
  rw [hsz, show ((left : Int) - ((1 + sizes ts : Nat) : Int)) = (l1 : Int) - 1 by push_cast; omega]
  exact HP.out.2.2.kept HY.out.2 (by omega)

set_option maxRecDepth 100000 in
set_option maxHeartbeats 4000000 in
theorem gsome_any (n : Int) (name : Bs) (terms : List Trm) (binds : List Bnd) (l : List Frm) (fa : FrmA) (env : List Ev) (z : SlA) (s : Schl) (x : SchA) (w : World) (mb left : Nat) (ts : List Tr) (hn : 0 <= n /\ n <= 1099511627776) (hm : MkB w mb s x left) (hl : left <= 65536)
    (hE : ∀ W, Below w.heap.size w W -> Calls Tryz.prog 80 #[.pointer (some ⟨mb, 0, none⟩), .slice z.a env.length z.cap, ndV (.mk 15 name n terms binds l, fa)] W (EachP s x mb left W ts)) :
    Calls Tryz.prog 38 #[.pointer (some ⟨mb, 0, none⟩), .slice z.a env.length z.cap, ndV (.mk 15 name n terms binds l, fa)] w (TreeP s x mb left w (.mk 5 0 0 ts)) := by
  have hmlt := hm.lt
  obtain ⟨W0, hW0⟩ : ∃ W0, W0 = (w.alloc (.cells (fa.cells (.mk 15 name n terms binds l)).toArray 34)).alloc (.cells #[.int .i64 0, .int .i64 0, .int .i64 0, .slice none 0 0] 39) := ⟨_, rfl⟩
  have hb0 : Below w.heap.size w W0 := by rw [hW0]; exact ((Below.refl _ _).alloc (Nat.le_refl _) _).alloc (by simp) _
  have hz0 : W0.heap.size = w.heap.size + 2 := by rw [hW0]; simp
  have hq0 : FrmBox W0 w.heap.size (.mk 15 name n terms binds l) fa := by rw [hW0]; unfold FrmBox; rw [heap_get, if_neg (by simp), heap_get, if_pos rfl]
  have hq1 : W0.heap[w.heap.size + 1]? = some (.cells #[.int .i64 0, .int .i64 0, .int .i64 0, .slice none 0 0] 39 (0, 0)) := by rw [hW0, heap_get, if_pos (by simp)]
  have HE := Lib.hid (hE W0 hb0)
  have HB := Lib.hid (And.intro hb0 (And.intro hq0 (And.intro hq1 hz0)))
  have HW0 := Lib.hid hW0
  have HN := Lib.hid hn
  have HM := Lib.hid (And.intro hm hl)
  obtain ⟨c0, c1, c2, c3, c4, c5⟩ := hq0.cells
  clear hb0 hq0 hq1 hW0 hE hn hm hl hz0
  simp only [ndV, FrmA.cells, SlA.val, Frm.kind, Frm.name, Frm.n, Frm.terms, Frm.binds, Frm.l] at HE HW0 c0 c1 c2 c3 c4 c5 ⊢
  go_enter Tryz.func38, Tryz.ntmps38
  go_wp2_with fail
  rw [<- HW0.out]
  go_wp2_with fail
  refine HE.out.mono ?_
  rintro e w1 ⟨hm1, ⟨hle, ⟨u, rfl, hu⟩, hmk⟩ | ⟨hlt, rfl, l', hmk⟩⟩
  rotate_left
  · refine ⟨rfl, (Chalk.Mod.of_below (S := fun k => k = mb) HB.out.1).trans hm1 (fun _ _ h => h), .inr ⟨?_, rfl, l', hmk⟩⟩
    simp only [Tr.size_mk, sizes_one]; omega
  clear c0 c1 c2 c3 c4 c5
  have hmw := hm1.size
  have q0 : FrmBox w1 w.heap.size (.mk 15 name n terms binds l) fa := heap_kept HB.out.2.1 hm1 (by omega)
  have q1 := heap_kept HB.out.2.2.1 hm1 (by omega)
  obtain ⟨c0, _, c2, _, _, _⟩ := q0.cells
  simp only [Frm.kind, Frm.n] at c0 c2
  have hlw : w.heap.size + 1 < w1.heap.size := (Array.getElem?_eq_some_iff.1 q1).1
  obtain ⟨l1, hl1⟩ : ∃ l1, left - sizes ts = l1 := ⟨_, rfl⟩
  have hmk1 : MkB w1 mb s x (l1 : Nat) := by rw [show ((l1 : Nat) : Int) = (left : Int) - sizes ts by omega]; exact hmk
  have HFN : Hid (∀ W', Chalk.Mod (fun k => k = mb ∨ k = w.heap.size + 1 ∨ w1.heap.size <= k) w1 W' -> Chalk.Mod (fun k => k = mb) w W' /\ SlIn W' (fun k => w.heap.size <= k /\ k < W'.heap.size) (ts.map Tr.toD) u) := Lib.hid (fun W' h => by
    have hz := h.size
    have hz0 := HB.out.2.2.2
    refine ⟨((Chalk.Mod.of_below (S := fun k => k = mb) HB.out.1).trans hm1 (fun _ _ h => h)).trans h (fun k hk h => ?_), (hu.agree (h.agree (fun k hk => ⟨hk.2, ?_⟩))).mono (fun k hk => ⟨by have := hk.1; omega, by have := hk.2; omega⟩)⟩
    · rcases h with h | h | h
      · exact h
      · omega
      · omega
    · rintro (h | h | h)
      · have := hk.1; omega
      · have := hk.1; omega
      · have := hk.2; omega)
  have HL1 := Lib.hid (And.intro hle hl1)
  have HQ1 := Lib.hid (And.intro q0 q1)
  have HMW := Lib.hid hmw
  clear hm1 hle hu hmk q0 q1 hl1 hmw
  go_wp2_with fail
  refine (part_any 5 u.a ts.length u.cap s x l1 mb w1 hmk1 (by have := HM.out.2; have := HL1.out.2; omega)).mono ?_
  rintro e w2 ⟨hm2, ⟨hp, rfl, hmk2⟩ | ⟨hp, rfl, hmk2⟩⟩
  rotate_left
  · refine ⟨rfl, (HFN.out _ (hm2.mono (fun _ h => .inl h))).1, .inr ⟨?_, rfl, _, hmk2⟩⟩
    simp only [Tr.size_mk, sizes_one]; have := HL1.out; omega
  have q2 := heap_kept HQ1.out.2 hm2 (by omega)
  have hlw2 : w.heap.size + 1 < w2.heap.size := (Array.getElem?_eq_some_iff.1 q2).1
  have x0 : w2.cell? ⟨w.heap.size + 1, 0, none⟩ = some (.int .i64 0) := cell_of_heap q2 rfl
  have f0 : w2.frozen? ⟨w.heap.size + 1, 0, none⟩ = false := frozen_of_heap q2
  have x1 : w2.cell? ⟨w.heap.size + 1, 1, none⟩ = some (.int .i64 0) := cell_of_heap q2 rfl
  have f1 : w2.frozen? ⟨w.heap.size + 1, 1, none⟩ = false := frozen_of_heap q2
  have x2 : w2.cell? ⟨w.heap.size + 1, 2, none⟩ = some (.int .i64 0) := cell_of_heap q2 rfl
  have f2 : w2.frozen? ⟨w.heap.size + 1, 2, none⟩ = false := frozen_of_heap q2
  have x3 : w2.cell? ⟨w.heap.size + 1, 3, none⟩ = some (.slice none 0 0) := cell_of_heap q2 rfl
  have f3 : w2.frozen? ⟨w.heap.size + 1, 3, none⟩ = false := frozen_of_heap q2
  have HP := Lib.hid (And.intro hm2 (And.intro hp hmk2))
  have HQ2 := Lib.hid q2
  clear hm2 hp hmk2 q2 hmk1
  go_wp2_with fail
  have hq3 := put4_heap HQ2.out (.int .i64 5) (.int .i64 0) (.int .i64 0) (.slice u.a ts.length u.cap)
  have hm3 := put4_mod w2 (w.heap.size + 1) 0 (.int .i64 5) (.int .i64 0) (.int .i64 0) (.slice u.a ts.length u.cap)
  unfold put4 at hq3 hm3
  simp only [Nat.zero_add] at hq3 hm3
  generalize (((w2.setCell _ _).setCell _ _).setCell _ _).setCell _ _ = W3 at hq3 hm3 ⊢
  have HY := Lib.hid (And.intro hq3 hm3)
  have y0 : W3.cell? ⟨w.heap.size + 1, 0, none⟩ = some (.int .i64 5) := cell_of_heap hq3 rfl
  have y1 : W3.cell? ⟨w.heap.size + 1, 1, none⟩ = some (.int .i64 0) := cell_of_heap hq3 rfl
  have y2 : W3.cell? ⟨w.heap.size + 1, 2, none⟩ = some (.int .i64 0) := cell_of_heap hq3 rfl
  have y3 : W3.cell? ⟨w.heap.size + 1, 3, none⟩ = some (.slice u.a ts.length u.cap) := cell_of_heap hq3 rfl
  clear hq3 hm3
  refine bodyPost_ret (v := .agg #[.int .i64 5, .int .i64 0, .int .i64 0, .slice u.a ts.length u.cap]) (by simp [results, Tryz.results38, go_sem, y0, y1, y2, y3]) rfl ?_
  obtain ⟨g1, g2⟩ := HFN.out W3 ((HP.out.1.mono (fun _ h => .inl h)).trans HY.out.2 (fun _ _ h => .inr (.inl h)))
  have hsz : (Tr.mk 5 0 0 ts).size = 1 + sizes ts := Tr.size_mk _ _ _ _
  have hq := HL1.out
  have hp := HP.out.2.1
  refine ⟨g1, .inl ⟨by omega, ⟨_, rfl, Tr.close (i64_small (by decide) (by decide)) (i64_small (by decide) (by decide)) (i64_small (by decide) (by decide)) g2⟩, ?_⟩⟩
  rw [hsz, show ((left : Int) - ((1 + sizes ts : Nat) : Int)) = (l1 : Int) - 1 by push_cast; omega]
  exact HP.out.2.2.kept HY.out.2 (by omega)

set_option maxRecDepth 100000 in
set_option maxHeartbeats 4000000 in
theorem gleast_any (n : Int) (name : Bs) (terms : List Trm) (binds : List Bnd) (l : List Frm) (fa : FrmA) (env : List Ev) (z : SlA) (s : Schl) (x : SchA) (w : World) (mb left : Nat) (ts : List Tr) (hn : 0 <= n /\ n <= 1099511627776) (hm : MkB w mb s x left) (hl : left <= 65536)
    (hE : ∀ W, Below w.heap.size w W -> Calls Tryz.prog 80 #[.pointer (some ⟨mb, 0, none⟩), .slice z.a env.length z.cap, ndV (.mk 16 name n terms binds l, fa)] W (EachP s x mb left W ts)) :
    Calls Tryz.prog 38 #[.pointer (some ⟨mb, 0, none⟩), .slice z.a env.length z.cap, ndV (.mk 16 name n terms binds l, fa)] w (TreeP s x mb left w (.mk 6 0 n ts)) := by
  have hmlt := hm.lt
  obtain ⟨W0, hW0⟩ : ∃ W0, W0 = (w.alloc (.cells (fa.cells (.mk 16 name n terms binds l)).toArray 34)).alloc (.cells #[.int .i64 0, .int .i64 0, .int .i64 0, .slice none 0 0] 39) := ⟨_, rfl⟩
  have hb0 : Below w.heap.size w W0 := by rw [hW0]; exact ((Below.refl _ _).alloc (Nat.le_refl _) _).alloc (by simp) _
  have hz0 : W0.heap.size = w.heap.size + 2 := by rw [hW0]; simp
  have hq0 : FrmBox W0 w.heap.size (.mk 16 name n terms binds l) fa := by rw [hW0]; unfold FrmBox; rw [heap_get, if_neg (by simp), heap_get, if_pos rfl]
  have hq1 : W0.heap[w.heap.size + 1]? = some (.cells #[.int .i64 0, .int .i64 0, .int .i64 0, .slice none 0 0] 39 (0, 0)) := by rw [hW0, heap_get, if_pos (by simp)]
  have HE := Lib.hid (hE W0 hb0)
  have HB := Lib.hid (And.intro hb0 (And.intro hq0 (And.intro hq1 hz0)))
  have HW0 := Lib.hid hW0
  have HN := Lib.hid hn
  have HM := Lib.hid (And.intro hm hl)
  obtain ⟨c0, c1, c2, c3, c4, c5⟩ := hq0.cells
  clear hb0 hq0 hq1 hW0 hE hn hm hl hz0
  simp only [ndV, FrmA.cells, SlA.val, Frm.kind, Frm.name, Frm.n, Frm.terms, Frm.binds, Frm.l] at HE HW0 c0 c1 c2 c3 c4 c5 ⊢
  go_enter Tryz.func38, Tryz.ntmps38
  go_wp2_with fail
  rw [<- HW0.out]
  go_wp2_with fail
  refine HE.out.mono ?_
  rintro e w1 ⟨hm1, ⟨hle, ⟨u, rfl, hu⟩, hmk⟩ | ⟨hlt, rfl, l', hmk⟩⟩
  rotate_left
  · refine ⟨rfl, (Chalk.Mod.of_below (S := fun k => k = mb) HB.out.1).trans hm1 (fun _ _ h => h), .inr ⟨?_, rfl, l', hmk⟩⟩
    simp only [Tr.size_mk, sizes_one]; omega
  clear c0 c1 c2 c3 c4 c5
  have hmw := hm1.size
  have q0 : FrmBox w1 w.heap.size (.mk 16 name n terms binds l) fa := heap_kept HB.out.2.1 hm1 (by omega)
  have q1 := heap_kept HB.out.2.2.1 hm1 (by omega)
  obtain ⟨c0, _, c2, _, _, _⟩ := q0.cells
  simp only [Frm.kind, Frm.n] at c0 c2
  have hlw : w.heap.size + 1 < w1.heap.size := (Array.getElem?_eq_some_iff.1 q1).1
  obtain ⟨l1, hl1⟩ : ∃ l1, left - sizes ts = l1 := ⟨_, rfl⟩
  have hmk1 : MkB w1 mb s x (l1 : Nat) := by rw [show ((l1 : Nat) : Int) = (left : Int) - sizes ts by omega]; exact hmk
  have HFN : Hid (∀ W', Chalk.Mod (fun k => k = mb ∨ k = w.heap.size + 1 ∨ w1.heap.size <= k) w1 W' -> Chalk.Mod (fun k => k = mb) w W' /\ SlIn W' (fun k => w.heap.size <= k /\ k < W'.heap.size) (ts.map Tr.toD) u) := Lib.hid (fun W' h => by
    have hz := h.size
    have hz0 := HB.out.2.2.2
    refine ⟨((Chalk.Mod.of_below (S := fun k => k = mb) HB.out.1).trans hm1 (fun _ _ h => h)).trans h (fun k hk h => ?_), (hu.agree (h.agree (fun k hk => ⟨hk.2, ?_⟩))).mono (fun k hk => ⟨by have := hk.1; omega, by have := hk.2; omega⟩)⟩
    · rcases h with h | h | h
      · exact h
      · omega
      · omega
    · rintro (h | h | h)
      · have := hk.1; omega
      · have := hk.1; omega
      · have := hk.2; omega)
  have HL1 := Lib.hid (And.intro hle hl1)
  have HQ1 := Lib.hid (And.intro q0 q1)
  have HMW := Lib.hid hmw
  clear hm1 hle hu hmk q0 q1 hl1 hmw
  go_wp2_with fail
  refine (part_any 6 u.a ts.length u.cap s x l1 mb w1 hmk1 (by have := HM.out.2; have := HL1.out.2; omega)).mono ?_
  rintro e w2 ⟨hm2, ⟨hp, rfl, hmk2⟩ | ⟨hp, rfl, hmk2⟩⟩
  rotate_left
  · refine ⟨rfl, (HFN.out _ (hm2.mono (fun _ h => .inl h))).1, .inr ⟨?_, rfl, _, hmk2⟩⟩
    simp only [Tr.size_mk, sizes_one]; have := HL1.out; omega
  have q2 := heap_kept HQ1.out.2 hm2 (by omega)
  have hf2 : FrmBox w2 w.heap.size (.mk 16 name n terms binds l) fa := heap_kept HQ1.out.1 hm2 (by omega)
  obtain ⟨c0, _, c2, _, _, _⟩ := hf2.cells
  simp only [Frm.kind, Frm.n] at c0 c2
  have hlw0 : w.heap.size < w2.heap.size := (Array.getElem?_eq_some_iff.1 hf2).1
  have hlw2 : w.heap.size + 1 < w2.heap.size := (Array.getElem?_eq_some_iff.1 q2).1
  have x0 : w2.cell? ⟨w.heap.size + 1, 0, none⟩ = some (.int .i64 0) := cell_of_heap q2 rfl
  have f0 : w2.frozen? ⟨w.heap.size + 1, 0, none⟩ = false := frozen_of_heap q2
  have x1 : w2.cell? ⟨w.heap.size + 1, 1, none⟩ = some (.int .i64 0) := cell_of_heap q2 rfl
  have f1 : w2.frozen? ⟨w.heap.size + 1, 1, none⟩ = false := frozen_of_heap q2
  have x2 : w2.cell? ⟨w.heap.size + 1, 2, none⟩ = some (.int .i64 0) := cell_of_heap q2 rfl
  have f2 : w2.frozen? ⟨w.heap.size + 1, 2, none⟩ = false := frozen_of_heap q2
  have x3 : w2.cell? ⟨w.heap.size + 1, 3, none⟩ = some (.slice none 0 0) := cell_of_heap q2 rfl
  have f3 : w2.frozen? ⟨w.heap.size + 1, 3, none⟩ = false := frozen_of_heap q2
  have HP := Lib.hid (And.intro hm2 (And.intro hp hmk2))
  have HQ2 := Lib.hid q2
  clear hm2 hp hmk2 q2 hmk1 hf2
  go_wp2_with fail
  have hq3 := put4_heap HQ2.out (.int .i64 6) (.int .i64 0) (.int .i64 n) (.slice u.a ts.length u.cap)
  have hm3 := put4_mod w2 (w.heap.size + 1) 0 (.int .i64 6) (.int .i64 0) (.int .i64 n) (.slice u.a ts.length u.cap)
  unfold put4 at hq3 hm3
  simp only [Nat.zero_add] at hq3 hm3
  generalize (((w2.setCell _ _).setCell _ _).setCell _ _).setCell _ _ = W3a at hq3 hm3 ⊢
  have hq4 := (Below.heap_alloc W3a (.cells #[.int .i64 6, .int .i64 0, .int .i64 n, .slice u.a ts.length u.cap] 39) _ (Array.getElem?_eq_some_iff.1 hq3).1).trans hq3
  have hm4 := hm3.alloc (.cells #[.int .i64 6, .int .i64 0, .int .i64 n, .slice u.a ts.length u.cap] 39)
  clear hq3 hm3
  generalize W3a.alloc (.cells #[.int .i64 6, .int .i64 0, .int .i64 n, .slice u.a ts.length u.cap] 39) = W3 at hq4 hm4 ⊢
  have hq3 := hq4
  have hm3 := hm4
  clear hq4 hm4 W3a
  have HY := Lib.hid (And.intro hq3 hm3)
  have y0 : W3.cell? ⟨w.heap.size + 1, 0, none⟩ = some (.int .i64 6) := cell_of_heap hq3 rfl
  have y1 : W3.cell? ⟨w.heap.size + 1, 1, none⟩ = some (.int .i64 0) := cell_of_heap hq3 rfl
  have y2 : W3.cell? ⟨w.heap.size + 1, 2, none⟩ = some (.int .i64 n) := cell_of_heap hq3 rfl
  have y3 : W3.cell? ⟨w.heap.size + 1, 3, none⟩ = some (.slice u.a ts.length u.cap) := cell_of_heap hq3 rfl
  clear hq3 hm3
  refine bodyPost_ret (v := .agg #[.int .i64 6, .int .i64 0, .int .i64 n, .slice u.a ts.length u.cap]) (by simp [results, Tryz.results38, go_sem, y0, y1, y2, y3]) rfl ?_
  obtain ⟨g1, g2⟩ := HFN.out W3 ((HP.out.1.mono (fun _ h => .inl h)).trans HY.out.2 (fun _ _ h => .inr (.inl h)))
  have hsz : (Tr.mk 6 0 n ts).size = 1 + sizes ts := Tr.size_mk _ _ _ _
  have hq := HL1.out
  have hp := HP.out.2.1
  have hn := HN.out
  refine ⟨g1, .inl ⟨by omega, ⟨_, rfl, Tr.close (i64_small (by decide) (by decide)) (i64_small (by decide) (by decide)) (i64_small (by omega) (by omega)) g2⟩, ?_⟩⟩
  rw [hsz, show ((left : Int) - ((1 + sizes ts : Nat) : Int)) = (l1 : Int) - 1 by push_cast; omega]
  exact HP.out.2.2.kept HY.out.2 (by omega)

set_option maxRecDepth 100000 in
set_option maxHeartbeats 4000000 in
theorem gmost_any (n : Int) (name : Bs) (terms : List Trm) (binds : List Bnd) (l : List Frm) (fa : FrmA) (env : List Ev) (z : SlA) (s : Schl) (x : SchA) (w : World) (mb left : Nat) (ts : List Tr) (hn : 0 <= n /\ n <= 1099511627776) (hm : MkB w mb s x left) (hl : left <= 65536)
    (hE : ∀ W, Below w.heap.size w W -> Calls Tryz.prog 80 #[.pointer (some ⟨mb, 0, none⟩), .slice z.a env.length z.cap, ndV (.mk 17 name n terms binds l, fa)] W (EachP s x mb left W ts)) :
    Calls Tryz.prog 38 #[.pointer (some ⟨mb, 0, none⟩), .slice z.a env.length z.cap, ndV (.mk 17 name n terms binds l, fa)] w (TreeP s x mb left w (.mk 3 0 0 [.mk 6 0 (min (n + 1) 1099511627776) ts])) := by
  have hmlt := hm.lt
  obtain ⟨W0, hW0⟩ : ∃ W0, W0 = (w.alloc (.cells (fa.cells (.mk 17 name n terms binds l)).toArray 34)).alloc (.cells #[.int .i64 0, .int .i64 0, .int .i64 0, .slice none 0 0] 39) := ⟨_, rfl⟩
  have hb0 : Below w.heap.size w W0 := by rw [hW0]; exact ((Below.refl _ _).alloc (Nat.le_refl _) _).alloc (by simp) _
  have hz0 : W0.heap.size = w.heap.size + 2 := by rw [hW0]; simp
  have hq0 : FrmBox W0 w.heap.size (.mk 17 name n terms binds l) fa := by rw [hW0]; unfold FrmBox; rw [heap_get, if_neg (by simp), heap_get, if_pos rfl]
  have hq1 : W0.heap[w.heap.size + 1]? = some (.cells #[.int .i64 0, .int .i64 0, .int .i64 0, .slice none 0 0] 39 (0, 0)) := by rw [hW0, heap_get, if_pos (by simp)]
  have HE := Lib.hid (hE W0 hb0)
  have HB := Lib.hid (And.intro hb0 (And.intro hq0 (And.intro hq1 hz0)))
  have HW0 := Lib.hid hW0
  have HN := Lib.hid hn
  have HM := Lib.hid (And.intro hm hl)
  obtain ⟨c0, c1, c2, c3, c4, c5⟩ := hq0.cells
  clear hb0 hq0 hq1 hW0 hE hn hm hl hz0
  simp only [ndV, FrmA.cells, SlA.val, Frm.kind, Frm.name, Frm.n, Frm.terms, Frm.binds, Frm.l] at HE HW0 c0 c1 c2 c3 c4 c5 ⊢
  go_enter Tryz.func38, Tryz.ntmps38
  go_wp2_with fail
  rw [<- HW0.out]
  go_wp2_with fail
  refine HE.out.mono ?_
  rintro e w1 ⟨hm1, ⟨hle, ⟨u, rfl, hu⟩, hmk⟩ | ⟨hlt, rfl, l', hmk⟩⟩
  rotate_left
  · refine ⟨rfl, (Chalk.Mod.of_below (S := fun k => k = mb) HB.out.1).trans hm1 (fun _ _ h => h), .inr ⟨?_, rfl, l', hmk⟩⟩
    simp only [Tr.size_mk, sizes_one]; omega
  clear c0 c1 c2 c3 c4 c5
  have hmw := hm1.size
  have q0 : FrmBox w1 w.heap.size (.mk 17 name n terms binds l) fa := heap_kept HB.out.2.1 hm1 (by omega)
  have q1 := heap_kept HB.out.2.2.1 hm1 (by omega)
  obtain ⟨c0, _, c2, _, _, _⟩ := q0.cells
  simp only [Frm.kind, Frm.n] at c0 c2
  have hlw : w.heap.size + 1 < w1.heap.size := (Array.getElem?_eq_some_iff.1 q1).1
  obtain ⟨l1, hl1⟩ : ∃ l1, left - sizes ts = l1 := ⟨_, rfl⟩
  have hmk1 : MkB w1 mb s x (l1 : Nat) := by rw [show ((l1 : Nat) : Int) = (left : Int) - sizes ts by omega]; exact hmk
  have HFN : Hid (∀ W', Chalk.Mod (fun k => k = mb ∨ k = w.heap.size + 1 ∨ w1.heap.size <= k) w1 W' -> Chalk.Mod (fun k => k = mb) w W' /\ SlIn W' (fun k => w.heap.size <= k /\ k < W'.heap.size) (ts.map Tr.toD) u) := Lib.hid (fun W' h => by
    have hz := h.size
    have hz0 := HB.out.2.2.2
    refine ⟨((Chalk.Mod.of_below (S := fun k => k = mb) HB.out.1).trans hm1 (fun _ _ h => h)).trans h (fun k hk h => ?_), (hu.agree (h.agree (fun k hk => ⟨hk.2, ?_⟩))).mono (fun k hk => ⟨by have := hk.1; omega, by have := hk.2; omega⟩)⟩
    · rcases h with h | h | h
      · exact h
      · omega
      · omega
    · rintro (h | h | h)
      · have := hk.1; omega
      · have := hk.1; omega
      · have := hk.2; omega)
  have HL1 := Lib.hid (And.intro hle hl1)
  have HQ1 := Lib.hid (And.intro q0 q1)
  have HMW := Lib.hid hmw
  clear hm1 hle hu hmk q0 q1 hl1 hmw
  go_wp2_with fail
  refine (part_any 6 u.a ts.length u.cap s x l1 mb w1 hmk1 (by have := HM.out.2; have := HL1.out.2; omega)).mono ?_
  rintro e w2 ⟨hm2, ⟨hp, rfl, hmk2⟩ | ⟨hp, rfl, hmk2⟩⟩
  rotate_left
  · refine ⟨rfl, (HFN.out _ (hm2.mono (fun _ h => .inl h))).1, .inr ⟨?_, rfl, _, hmk2⟩⟩
    simp only [Tr.size_mk, sizes_one]; have := HL1.out; omega
  have q2 := heap_kept HQ1.out.2 hm2 (by omega)
  have hf2 : FrmBox w2 w.heap.size (.mk 17 name n terms binds l) fa := heap_kept HQ1.out.1 hm2 (by omega)
  obtain ⟨c0, _, c2, _, _, _⟩ := hf2.cells
  simp only [Frm.kind, Frm.n] at c0 c2
  have hlw0 : w.heap.size < w2.heap.size := (Array.getElem?_eq_some_iff.1 hf2).1
  have hlw2 : w.heap.size + 1 < w2.heap.size := (Array.getElem?_eq_some_iff.1 q2).1
  have x0 : w2.cell? ⟨w.heap.size + 1, 0, none⟩ = some (.int .i64 0) := cell_of_heap q2 rfl
  have f0 : w2.frozen? ⟨w.heap.size + 1, 0, none⟩ = false := frozen_of_heap q2
  have x1 : w2.cell? ⟨w.heap.size + 1, 1, none⟩ = some (.int .i64 0) := cell_of_heap q2 rfl
  have f1 : w2.frozen? ⟨w.heap.size + 1, 1, none⟩ = false := frozen_of_heap q2
  have x2 : w2.cell? ⟨w.heap.size + 1, 2, none⟩ = some (.int .i64 0) := cell_of_heap q2 rfl
  have f2 : w2.frozen? ⟨w.heap.size + 1, 2, none⟩ = false := frozen_of_heap q2
  have x3 : w2.cell? ⟨w.heap.size + 1, 3, none⟩ = some (.slice none 0 0) := cell_of_heap q2 rfl
  have f3 : w2.frozen? ⟨w.heap.size + 1, 3, none⟩ = false := frozen_of_heap q2
  have HP := Lib.hid (And.intro hm2 (And.intro hp hmk2))
  have HQ2 := Lib.hid q2
  clear hm2 hp hmk2 q2 hmk1 hf2
  have hn0 := HN.out.1
  have hn1 := HN.out.2
  go_wp2_with fail
  obtain ⟨WA, hWA⟩ : ∃ WA, WA = (w2.alloc (.cells #[.int .i64 6, .int .i64 0, .int .i64 (min (n + 1) 1099511627776), .slice u.a ts.length u.cap] 39)).alloc (.cells #[.int .i64 6, .int .i64 0, .int .i64 (min (n + 1) 1099511627776), .slice u.a ts.length u.cap] 39) := ⟨_, rfl⟩
  have hbA : Below w2.heap.size w2 WA := by rw [hWA]; exact ((Below.refl _ _).alloc (Nat.le_refl _) _).alloc (by simp) _
  have hzA : WA.heap.size = w2.heap.size + 2 := by rw [hWA]; simp
  have hkA : WA.heap[w2.heap.size + 1]? = some (.cells #[.int .i64 6, .int .i64 0, .int .i64 (min (n + 1) 1099511627776), .slice u.a ts.length u.cap] 39 (0, 0)) := by rw [hWA, heap_get, if_pos (by simp)]
  obtain ⟨l2, hl2⟩ : ∃ l2, l1 - 1 = l2 := ⟨_, rfl⟩
  have hp1 := HP.out.2.1
  have hmk3 : MkB WA mb s x (l2 : Nat) := by
    rw [show ((l2 : Nat) : Int) = (l1 : Int) - 1 by omega]
    exact (hbA.block mb HP.out.2.2.lt).trans HP.out.2.2
  have HA := Lib.hid (And.intro hbA (And.intro hzA (And.intro hkA hl2)))
  rw [<- hWA]
  clear hWA hbA hzA hkA hp1 hl2 x0 x1 x2 x3 f0 f1 f2 f3 c0 c2 hlw0 hlw2
  refine (part_any 3 (some ⟨w2.heap.size + 1, 0, none⟩) 1 1 s x l2 mb WA hmk3 (by have := HM.out.2; have := HL1.out.2; have := HA.out; omega)).mono ?_
  rintro e w3 ⟨hm3, ⟨hp, rfl, hmk4⟩ | ⟨hp, rfl, hmk4⟩⟩
  rotate_left
  · refine ⟨rfl, (HFN.out _ ((HP.out.1.mono (fun _ h => .inl h)).trans ((Chalk.Mod.of_below (S := fun k => k = mb) HA.out.1).trans hm3 (fun _ _ h => h)) (fun _ _ h => .inl h))).1, .inr ⟨?_, rfl, _, hmk4⟩⟩
    simp only [Tr.size_mk, sizes_one]; have := HL1.out; have := HA.out; have := HP.out.2.1; omega
  have q3 := heap_kept ((HA.out.1.block _ (Array.getElem?_eq_some_iff.1 HQ2.out).1).trans HQ2.out) hm3 (by omega)
  have k3 := heap_kept HA.out.2.2.1 hm3 (by have := HP.out.2.2.lt; omega)
  have hlw3 : w.heap.size + 1 < w3.heap.size := (Array.getElem?_eq_some_iff.1 q3).1
  have x0 : w3.cell? ⟨w.heap.size + 1, 0, none⟩ = some (.int .i64 0) := cell_of_heap q3 rfl
  have f0 : w3.frozen? ⟨w.heap.size + 1, 0, none⟩ = false := frozen_of_heap q3
  have x1 : w3.cell? ⟨w.heap.size + 1, 1, none⟩ = some (.int .i64 0) := cell_of_heap q3 rfl
  have f1 : w3.frozen? ⟨w.heap.size + 1, 1, none⟩ = false := frozen_of_heap q3
  have x2 : w3.cell? ⟨w.heap.size + 1, 2, none⟩ = some (.int .i64 0) := cell_of_heap q3 rfl
  have f2 : w3.frozen? ⟨w.heap.size + 1, 2, none⟩ = false := frozen_of_heap q3
  have x3 : w3.cell? ⟨w.heap.size + 1, 3, none⟩ = some (.slice none 0 0) := cell_of_heap q3 rfl
  have f3 : w3.frozen? ⟨w.heap.size + 1, 3, none⟩ = false := frozen_of_heap q3
  have HP3 := Lib.hid (And.intro hm3 (And.intro hp (And.intro hmk4 k3)))
  have HQ3 := Lib.hid q3
  clear hm3 hp hmk4 q3 k3 hmk3
  go_wp2_with fail
  have hq3 := put4_heap HQ3.out (.int .i64 3) (.int .i64 0) (.int .i64 0) (.slice (some ⟨w2.heap.size + 1, 0, none⟩) 1 1)
  have hm3 := put4_mod w3 (w.heap.size + 1) 0 (.int .i64 3) (.int .i64 0) (.int .i64 0) (.slice (some ⟨w2.heap.size + 1, 0, none⟩) 1 1)
  unfold put4 at hq3 hm3
  simp only [Nat.zero_add] at hq3 hm3
  generalize (((w3.setCell _ _).setCell _ _).setCell _ _).setCell _ _ = W3 at hq3 hm3 ⊢
  have HY := Lib.hid (And.intro hq3 hm3)
  have y0 : W3.cell? ⟨w.heap.size + 1, 0, none⟩ = some (.int .i64 3) := cell_of_heap hq3 rfl
  have y1 : W3.cell? ⟨w.heap.size + 1, 1, none⟩ = some (.int .i64 0) := cell_of_heap hq3 rfl
  have y2 : W3.cell? ⟨w.heap.size + 1, 2, none⟩ = some (.int .i64 0) := cell_of_heap hq3 rfl
  have y3 : W3.cell? ⟨w.heap.size + 1, 3, none⟩ = some (.slice (some ⟨w2.heap.size + 1, 0, none⟩) 1 1) := cell_of_heap hq3 rfl
  clear hq3 hm3
  refine bodyPost_ret (v := .agg #[.int .i64 3, .int .i64 0, .int .i64 0, .slice (some ⟨w2.heap.size + 1, 0, none⟩) 1 1]) (by simp [results, Tryz.results38, go_sem, y0, y1, y2, y3]) rfl ?_
  have hmW : Chalk.Mod (fun k => k = mb ∨ k = w.heap.size + 1 ∨ w1.heap.size <= k) w1 W3 := ((HP.out.1.mono (fun _ h => .inl h)).trans ((Chalk.Mod.of_below (S := fun k => k = mb) HA.out.1).trans HP3.out.1 (fun _ _ h => h)) (fun _ _ h => .inl h)).trans HY.out.2 (fun _ _ h => .inr (.inl h))
  obtain ⟨g1, g2⟩ := HFN.out W3 hmW
  have hsz : (Tr.mk 3 0 0 [.mk 6 0 (min (n + 1) 1099511627776) ts]).size = 2 + sizes ts := by simp only [Tr.size_mk, sizes_one]; omega
  have hq := HL1.out
  have hp := HP.out.2.1
  have hp3 := HP3.out.2.1
  have hA := HA.out
  have hn := HN.out
  have hw2 : w1.heap.size <= w2.heap.size := HP.out.1.size
  have hk3 := heap_kept HP3.out.2.2.2 HY.out.2 (by have := HMW.out; have := HB.out.2.2.2; omega)
  have hin := Tr.close (kind := 6) (v := 0) (k := min (n + 1) 1099511627776) (i64_small (by decide) (by decide)) (i64_small (by decide) (by decide)) (i64_small (by omega) (by omega)) g2
  have hsl : SlIn W3 (fun k => w.heap.size <= k /\ k < W3.heap.size) ([Tr.mk 6 0 (min (n + 1) 1099511627776) ts].map Tr.toD) ⟨some ⟨w2.heap.size + 1, 0, none⟩, w2.heap.size + 1, 0, 1⟩ :=
    SlIn.lit hk3 (DsAt.oneT hin) ⟨by have := HMW.out; have := HB.out.2.2.2; omega, (Array.getElem?_eq_some_iff.1 hk3).1⟩ (by simp) (by unfold maxLen; omega)
  refine ⟨g1, .inl ⟨by omega, ⟨_, rfl, Tr.close (i64_small (by decide) (by decide)) (i64_small (by decide) (by decide)) (i64_small (by decide) (by decide)) hsl⟩, ?_⟩⟩
  rw [hsz, show ((left : Int) - ((2 + sizes ts : Nat) : Int)) = (l2 : Int) - 1 by push_cast; omega]
  exact HP3.out.2.2.1.kept HY.out.2 (by omega)
end Go.Proofs.YtjjkfgjnadaheaaGreatDoor
