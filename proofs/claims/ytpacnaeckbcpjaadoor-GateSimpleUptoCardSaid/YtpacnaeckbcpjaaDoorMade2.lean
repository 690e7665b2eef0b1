/- gate's made: its walk. -/
import Derived.Test.YtpacnaeckbcpjaaDoorStop
import Derived.Test.YtpacnaeckbcpjaaDoorAll
import Derived.ChangeAlike
import Derived.Deep.RegionHeld3
namespace Go.Proofs.YtpacnaeckbcpjaaDoor
open Go.RowKit Go.Chalk

/-- What made answers. -/
def MadePost (w : World) (r : List Int × List Lin × Int × Int) (e : Ending) (w' : World) : Prop :=
  ∃ vL vS, e = .returned (.tuple #[vL, .agg #[vS, .int .i64 r.2.2.1], .int .i64 r.2.2.2]) ∧ NewAt w w' (.sl (dints r.1)) [vL] ∧ NewAt w w' (.sl (r.2.1.map Lin.toD)) [vS] ∧ Below w.heap.size w w'

theorem below_undrew {B : Nat} {w w3 : World} (h : Below B w w3) : Below B w w3.drew := ⟨h.os, h.tape, h.output, h.size, h.block⟩
theorem new_nil (w w' : World) : NewAt w w' (.sl []) [.slice none 0 0] :=
  DAt.slice (xs := []) (b := 0) (o := 0) (a := none) (fun h => by simp at h) (Nat.le_refl _) (Nat.zero_le _) (by rw [RowAt]; trivial)

set_option maxRecDepth 100000 in
set_option maxHeartbeats 400000 in
theorem made_arg (l : List Tr) (next : Int) (a : Option Addr) (cap : Nat) (w : World) (h0 : next < 1 ∨ 65537 < next) :
    Calls Tryd.prog 13 #[.slice a l.length cap, .int .i64 next] w (MadePost w ([], [], 0, 1)) := by
  rcases h0 with h0 | h0
  · go_enter_defers Tryd.func13, Tryd.ntmps13
    go_wp2_with fail
    go_region
    all_goals
      go_wp2
      refine ⟨.tuple #[.slice none 0 0, .agg #[.slice none 0 0, .int .i64 0], .int .i64 1], by simp [results, Tryd.results13, go_sem], _, _, rfl, new_nil _ _, new_nil _ _, ?_⟩
      exact below_undrew ((((Below.refl _ _).alloc (Nat.le_refl _) _).alloc (by simp) _).alloc (by simp; omega) _)
  · have h0' : decide (next < 1) = false := by simp; omega
    go_enter_defers Tryd.func13, Tryd.ntmps13
    go_wp2_with fail
    go_region
    all_goals
      go_wp2
      refine ⟨.tuple #[.slice none 0 0, .agg #[.slice none 0 0, .int .i64 0], .int .i64 1], by simp [results, Tryd.results13, go_sem], _, _, rfl, new_nil _ _, new_nil _ _, ?_⟩
      exact below_undrew ((((Below.refl _ _).alloc (Nat.le_refl _) _).alloc (by simp) _).alloc (by simp; omega) _)

/-- What holds at each round of made's loop. H: the heap's size when the call began. -/
structure MadeRel (w wr : World) (l : List Tr) (next : Int) (j : Nat) (lv v' : Value) (r q : Option Nat) (xs : List Int) (ls : List Lin) (nx : Int) : Prop where
  le : j ≤ l.length
  eq : allGo l next [] [] = allGo (l.drop j) nx xs ls
  lo : 1 ≤ nx
  hi : nx ≤ 65537
  nlen : xs.length ≤ j
  nlin : ls.length ≤ 2 * sizes (l.take j)
  c4 : wr.heap[w.heap.size]? = some (.cells #[lv] 40 (0, 0))
  c5 : wr.heap[w.heap.size + 1]? = some (.cells #[.slice none 0 0, .int .i64 0] 45 (0, 0))
  c6 : wr.heap[w.heap.size + 1 + 1]? = some (.cells #[.int .i64 0] 29 (0, 0))
  kinds : KindsAt wr (w.heap.size + 1 + 1 + 1)
  maker : MkAt wr (fun k => w.heap.size + 4 < k ∧ k < wr.heap.size ∧ q ≠ some k) (w.heap.size + 1 + 1 + 1 + 1) 55 42 [.map (some (w.heap.size + 1 + 1 + 1))] v' nx ls r
  lits : Chalk.Own wr (fun _ => False) 3 1 lv q (dints xs)
  low : ∀ k, q = some k → w.heap.size + 4 < k
  below : Below w.heap.size w wr

theorem MadeRel.start (w : World) (l : List Tr) (next : Int) (h1 : 1 ≤ next) (h2 : next ≤ 65537) :
    MadeRel w (((((w.alloc (.cells #[.slice none 0 0] 40)).alloc (.cells #[.slice none 0 0, .int .i64 0] 45)).alloc (.cells #[.int .i64 0] 29)).alloc (.map kindsEs 4)).alloc (.cells #[.slice none 0 0, .int .i64 next, .map (some (w.heap.size + 1 + 1 + 1))] 55)) l next 0 (.slice none 0 0) (.slice none 0 0) none none [] [] next := by
  have g : ∀ (w : World) (o : Obj) (k : Nat), (w.alloc o).heap[k]? = if k = w.heap.size then some o else w.heap[k]? := heap_alloc_get'
  refine ⟨Nat.zero_le _, rfl, h1, h2, Nat.le_refl _, by simp, ?_, ?_, ?_, ?_, ⟨?_, ⟨fun _ => False, Chalk.Own.nil _ _ _ _ (fun _ h => h.elim), fun _ h => h.elim⟩, fun _ h => (by cases h), fun k hk => hk.2.1⟩, Chalk.Own.nil _ _ _ _ (fun _ h => h.elim), fun _ h => (by cases h), ?_⟩
  · simp only [g, World.size_alloc]; repeat (first | rw [if_pos trivial] | rw [if_pos rfl] | rw [if_neg (by omega)])
  · simp only [g, World.size_alloc]; repeat (first | rw [if_pos trivial] | rw [if_pos rfl] | rw [if_neg (by omega)])
  · simp only [g, World.size_alloc]; repeat (first | rw [if_pos trivial] | rw [if_pos rfl] | rw [if_neg (by omega)])
  · unfold KindsAt; simp only [g, World.size_alloc]; repeat (first | rw [if_pos trivial] | rw [if_pos rfl] | rw [if_neg (by omega)])
  · simp only [g, World.size_alloc]; repeat (first | rw [if_pos trivial] | rw [if_pos rfl] | rw [if_neg (by omega)])
  · exact (((((Below.refl _ _).alloc (Nat.le_refl _) _).alloc (by simp) _).alloc (by simp; omega) _).alloc (by simp; omega) _).alloc (by simp; omega) _

theorem MadeRel.kept {w wr w2 : World} {l : List Tr} {next : Int} {j : Nat} {lv v' : Value} {r q : Option Nat} {xs : List Int} {ls : List Lin} {nx : Int} (R : MadeRel w wr l next j lv v' r q xs ls nx) (hb : Below wr.heap.size wr w2) : MadeRel w w2 l next j lv v' r q xs ls nx := by
  have hs := hb.size
  have hb0 := R.below.size
  have g : ∀ k o, wr.heap[k]? = some o → w2.heap[k]? = some o := fun k o h => (hb.block k (Array.getElem?_eq_some_iff.1 h).1).trans h
  exact ⟨R.le, R.eq, R.lo, R.hi, R.nlen, R.nlin, g _ _ R.c4, g _ _ R.c5, g _ _ R.c6, g _ _ R.kinds, (R.maker.below hb).mono (fun k hk => ⟨hk.1, by omega, hk.2.2⟩) (fun k hk => hk.2.1), R.lits.below hb, R.low, R.below.trans (hb.mono hb0)⟩

/-- Behind literal: where the literals lie. -/
theorem MadeRel.behind {w w3 w4 : World} {l : List Tr} {next : Int} {j : Nat} {lv v' : Value} {r q : Option Nat} {xs : List Int} {ls : List Lin} {nx : Int} (R : MadeRel w w3 l next j lv v' r q xs ls nx) (hm : Chalk.Mod (fun k => k = w.heap.size + 1 + 1 + 1 + 1 ∨ r = some k) w3.drew w4) :
    Chalk.Own w4 (fun _ => False) 3 1 lv q (dints xs) ∧ (∀ k o, k < w.heap.size + 4 → w3.heap[k]? = some o → w4.heap[k]? = some o) := by
  have hb : Below w3.heap.size w3 w3.drew := below_undrew (Below.refl _ _)
  have hq : ∀ k, q = some k → ¬ (k = w.heap.size + 1 + 1 + 1 + 1 ∨ r = some k) := fun k hk h => by
    have := R.low k hk
    rcases h with h | h
    · omega
    · exact (R.maker.row k h).1.2.2 hk
  refine ⟨(R.lits.below hb).kept hm (fun _ h => h.elim) hq, fun k o hk h => ?_⟩
  rw [hm.block k (Array.getElem?_eq_some_iff.1 h).1 (fun h => ?_)]
  · exact h
  · rcases h with h | h
    · omega
    · have := (R.maker.row k h).1.1; omega

theorem MadeRel.step {w w3 w4 w5 : World} {l : List Tr} {next : Int} {j : Nat} {lv v' x : Value} {r q : Option Nat} {xs : List Int} {ls new : List Lin} {nx nx' y : Int} {e : Ending} {g cap : Nat} (R : MadeRel w w3 l next j lv v' r q xs ls nx) (hj : j < l.length)
    (hp : LitPost w3.drew (fun k => w.heap.size + 4 < k ∧ k < w3.heap.size ∧ q ≠ some k) (w.heap.size + 1 + 1 + 1 + 1) 55 42 [.map (some (w.heap.size + 1 + 1 + 1))] ls r x new nx' e w4)
    (hg : gatesF l[j] nx = (y, new, nx', 0)) (hnx : nx ≤ nx') (hnx' : nx' ≤ 65537) (hnew : new.length ≤ 2 * (l[j]).size) (hy : -9223372036854775808 ≤ y ∧ y ≤ 9223372036854775807)
    (ho : w5.ownsRow 0 3 1 (.slice (some ⟨g, 0, none⟩) (xs.length + 1) cap) (xs.length + 1) (xs.map (Value.int .i64) ++ [.int .i64 y])) (hgr : (w4.alloc (.cells #[.int .i64 y] 3)).grownBy w5 lv.ownBlock) (hat : lv.ownBlock = some g ∨ g = w4.heap.size + 1) :
    (w5.cell? ⟨w.heap.size, 0, none⟩ = some lv ∧ w5.frozen? ⟨w.heap.size, 0, none⟩ = false) ∧ ∃ v'' r'', MadeRel w (w5.setCell ⟨w.heap.size, 0, none⟩ (.slice (some ⟨g, 0, none⟩) (xs.length + 1) cap)) l next (j + 1) (.slice (some ⟨g, 0, none⟩) (xs.length + 1) cap) v'' r'' (some g) (xs ++ [y]) (ls ++ new) nx' := by
  obtain ⟨_, v'', r'', m1, f1, md1⟩ := hp
  obtain ⟨o4, keep4⟩ := R.behind md1
  have hs1 : w3.heap.size ≤ w4.heap.size := md1.size
  have hs2 := hgr.size
  simp only [World.size_alloc] at hs2
  have hs0 := R.below.size
  have hmb : w.heap.size + 1 + 1 + 1 + 1 < w3.heap.size := R.maker.lt
  have hrow : lv.ownBlock = q := R.lits.row
  have hqlt : ∀ k, q = some k → k < w3.heap.size := fun k hk => R.lits.row_lt hk
  obtain ⟨o5, md2, at2⟩ := (o4.alloc (.cells #[.int .i64 y] 3)).int_appended (ys := [y]) (fun x hx => by simp at hx; subst hx; exact hy) (by simpa using ho) hgr (by rcases hat with h | h; exact .inl h.symm; exact .inr (by simp [Value.ownBlock, h]))
  have hgq : q = some g ∨ g = w4.heap.size + 1 := by rw [← hrow]; exact hat
  have hglow : w.heap.size + 4 < g := by
    rcases hgq with h | h
    · exact R.low g h
    · omega
  have md2' : Chalk.Mod (fun k => q = some k) w4 w5 := ((Mod.refl _ w4).alloc _).trans md2 (fun _ _ h => h)
  have keep5 : ∀ k o, k < w.heap.size + 4 → w3.heap[k]? = some o → w5.heap[k]? = some o := fun k o hk h => by
    have h4 := keep4 k o hk h
    rw [md2'.block k (Array.getElem?_eq_some_iff.1 h4).1 (fun e => by have := R.low k e; omega)]; exact h4
  have c4 := keep5 _ _ (by omega) R.c4
  refine ⟨⟨cell_of_heap c4 rfl, frozen_of_heap c4⟩, v'', r'', ?_⟩
  have hset : ∀ k, k ≠ w.heap.size → (w5.setCell ⟨w.heap.size, 0, none⟩ (.slice (some ⟨g, 0, none⟩) (xs.length + 1) cap)).heap[k]? = w5.heap[k]? := fun k hk => Below.heap_setCell _ _ _ _ hk
  have hssz : (w5.setCell ⟨w.heap.size, 0, none⟩ (.slice (some ⟨g, 0, none⟩) (xs.length + 1) cap)).heap.size = w5.heap.size := by simp [World.setCell]
  have mdS : Chalk.Mod (fun k => k = w.heap.size) w5 (w5.setCell ⟨w.heap.size, 0, none⟩ (.slice (some ⟨g, 0, none⟩) (xs.length + 1) cap)) := (Mod.refl (fun k => k = w.heap.size) w5).setCell (p := ⟨w.heap.size, 0, none⟩) (fun _ => rfl) _
  have hG1 : ∀ k, ((w.heap.size + 4 < k ∧ k < w3.heap.size ∧ q ≠ some k) ∨ (w3.drew.heap.size ≤ k ∧ k < w4.heap.size)) → q ≠ some k ∧ w.heap.size + 4 < k ∧ k < w4.heap.size := fun k hk => by
    rcases hk with h | h
    · exact ⟨h.2.2, h.1, by omega⟩
    · have h1 : w3.heap.size ≤ k := h.1
      exact ⟨fun e => by have := hqlt k e; omega, by omega, h.2⟩
  have m2 := (m1.kept md2' (fun h => by have := R.low _ h; omega) (fun k hk => (hG1 k hk).1)).kept mdS (by omega) (fun k hk => by have := (hG1 k hk).2.1; omega)
  have hst : sizes (l.take (j + 1)) = sizes (l.take j) + (l[j]).size := sizes_take_succ l j hj
  have hn1 := R.nlen
  have hn2 := R.nlin
  refine ⟨by omega, R.eq.trans (allGo_next hj hg rfl), by have := R.lo; omega, hnx', by simp; omega, by simp; omega, ?_, ?_, ?_, ?_, ?_, ?_, ?_, ?_⟩
  · rw [box_store _ c4]; rfl
  · rw [hset _ (by omega)]; exact keep5 _ _ (by omega) R.c5
  · rw [hset _ (by omega)]; exact keep5 _ _ (by omega) R.c6
  · unfold KindsAt; rw [hset _ (by omega)]; exact keep5 _ _ (by omega) R.kinds
  · refine m2.mono (fun k hk => ?_) (fun k hk => hk.2.1)
    have h1 := hG1 k hk
    refine ⟨h1.2.1, by rw [hssz]; omega, ?_⟩
    rcases hgq with e | e
    · rw [← e]; exact h1.1
    · simp; omega
  · exact (by simpa [Value.ownBlock] using o5 : Chalk.Own w5 (fun _ => False) 3 1 (.slice (some ⟨g, 0, none⟩) (xs.length + 1) cap) (some g) (dints (xs ++ [y]))).store _ id (by simp; omega)
  · intro k hk; simp at hk; omega
  · have b1 : Below w.heap.size w3 w4 := by
      have := md1.below (B := w.heap.size) (by show _ ≤ w3.heap.size; omega) (fun k hk => by
        rcases hk with h | h
        · omega
        · have := (R.maker.row k h).1.1; omega)
      exact ⟨this.os, this.tape, this.output, this.size, this.block⟩
    have b2 : Below w.heap.size w4 w5 := md2'.below (by omega) (fun k hk => by have := R.low k hk; omega)
    exact ((R.below.trans b1).trans b2).trans (mdS.below (by omega) (fun k hk => by omega))

/-- The door where the body has panicked. -/
theorem made_stop {w w4 : World} {tmps : Array Value} {code : Int} {res : List Int × List Lin × Int × Int} {a4 : Option Addr} {n4 k4 : Nat} (hres : res = ([], [], 0, code)) (hb : Below w.heap.size w w4)
    (h4 : w4.heap[w.heap.size]? = some (.cells #[.slice a4 n4 k4] 40 (0, 0))) (h5 : w4.heap[w.heap.size + 1]? = some (.cells #[.slice none 0 0, .int .i64 0] 45 (0, 0))) (h6 : w4.heap[w.heap.size + 1 + 1]? = some (.cells #[.int .i64 0] 29 (0, 0)))
    (t4 : tmps[4]? = some (.pointer (some ⟨w.heap.size, 0, none⟩))) (t5 : tmps[5]? = some (.pointer (some ⟨w.heap.size + 1, 0, none⟩))) (t6 : tmps[6]? = some (.pointer (some ⟨w.heap.size + 1 + 1, 0, none⟩))) :
    bodyPostD Tryd.prog Tryd.f13 (MadePost w res) (.panic [{ v := .iface 57 (.agg #[.int .i64 code]), recovered := false }])
      { tmps := tmps, defers := [{ target := .fn (.func 19) #[.pointer (some ⟨w.heap.size, 0, none⟩), .pointer (some ⟨w.heap.size + 1, 0, none⟩), .pointer (some ⟨w.heap.size + 1 + 1, 0, none⟩)], args := #[] }] } w4 := by
  refine leaves_cons (f := 19) (args := #[.pointer (some ⟨w.heap.size, 0, none⟩), .pointer (some ⟨w.heap.size + 1, 0, none⟩), .pointer (some ⟨w.heap.size + 1 + 1, 0, none⟩)]) (by simp) (by simp [go_sem]) ?_
  refine (catch_panicking _ _ _ code _ _ _ _ _ _ _ _ w4 h4 h5 h6 (by omega) (by omega) (by omega)).mono ?_
  rintro e u' w5 ⟨rfl, rfl, hc⟩
  have c4 : w5.cell? ⟨w.heap.size, 0, none⟩ = some (.slice none 0 0) := cell_of_heap hc.c4 rfl
  have c5 : w5.cell? ⟨w.heap.size + 1, 0, none⟩ = some (.slice none 0 0) := cell_of_heap hc.c5 rfl
  have c5' : w5.cell? ⟨w.heap.size + 1, 1, none⟩ = some (.int .i64 0) := cell_of_heap hc.c5 rfl
  have c6 : w5.cell? ⟨w.heap.size + 1 + 1, 0, none⟩ = some (.int .i64 code) := cell_of_heap hc.c6 rfl
  have hbb : Below w.heap.size w w5 := hb.trans (hc.mod.below hb.size (fun k hk => by omega))
  subst hres
  have hR : MadePost w ([], [], 0, code) (.returned (.tuple #[.slice none 0 0, .agg #[.slice none 0 0, .int .i64 0], .int .i64 code])) w5 := ⟨_, _, rfl, new_nil _ _, new_nil _ _, hbb⟩
  simp only [Leaves, settle]
  refine ⟨_, ?_, hR⟩
  simp [results, Tryd.results13, go_sem, t4, t5, t6, c4, c5, c5', c6]

/-- The builder's slice, read. -/
theorem maker_read {w w' : World} {G : Nat → Prop} {mb : Nat} {tm tl : TypeId} {ex : List Value} {v : Value} {nx : Int} {ls : List Lin} {r : Option Nat} (h : MkAt w' G mb tm tl ex v nx ls r) (hG : ∀ k, G k → w.heap.size ≤ k) : NewAt w w' (.sl (ls.map Lin.toD)) [v] := by
  obtain ⟨h1, ⟨F, h2, h3⟩, h4, h5⟩ := h
  exact h2.read (fun k hk => ⟨hG k (h3 k hk).1, h5 k (h3 k hk).1⟩) (fun k hk => ⟨hG k (h4 k hk).1, h5 k (h4 k hk).1⟩) (by rw [lins_widths, List.length_map])

/-- The door where the body has returned. -/
theorem made_done {w wr : World} {l : List Tr} {next : Int} {la a3 : Option Addr} {n4 lcap n3 cap3 : Nat} {r q : Option Nat} {xs : List Int} {ls : List Lin} {nx : Int} {tmps : Array Value} (R : MadeRel w wr l next l.length (.slice la n4 lcap) (.slice a3 n3 cap3) r q xs ls nx) (heq : allGo l next [] [] = (xs, ls, nx, 0))
    (t4 : tmps[4]? = some (.pointer (some ⟨w.heap.size, 0, none⟩))) (t5 : tmps[5]? = some (.pointer (some ⟨w.heap.size + 1, 0, none⟩))) (t6 : tmps[6]? = some (.pointer (some ⟨w.heap.size + 1 + 1, 0, none⟩))) :
    bodyPostD Tryd.prog Tryd.f13 (MadePost w (allGo l next [] [])) .ret
      { tmps := tmps, defers := [{ target := .fn (.func 19) #[.pointer (some ⟨w.heap.size, 0, none⟩), .pointer (some ⟨w.heap.size + 1, 0, none⟩), .pointer (some ⟨w.heap.size + 1 + 1, 0, none⟩)], args := #[] }] }
      ((((wr.setCell ⟨w.heap.size, 0, none⟩ (.slice la n4 lcap)).setCell ⟨w.heap.size + 1, 0, none⟩ (.slice a3 n3 cap3)).setCell ⟨w.heap.size + 1, 1, none⟩ (.int .i64 nx)).setCell ⟨w.heap.size + 1 + 1, 0, none⟩ (.int .i64 0)).drew := by
  have hm : Chalk.Mod (fun k => k = w.heap.size ∨ k = w.heap.size + 1 ∨ k = w.heap.size + 1 + 1) wr ((((wr.setCell ⟨w.heap.size, 0, none⟩ (.slice la n4 lcap)).setCell ⟨w.heap.size + 1, 0, none⟩ (.slice a3 n3 cap3)).setCell ⟨w.heap.size + 1, 1, none⟩ (.int .i64 nx)).setCell ⟨w.heap.size + 1 + 1, 0, none⟩ (.int .i64 0)).drew :=
    ((((((Mod.refl _ wr).setCell (p := ⟨w.heap.size, 0, none⟩) (fun _ => .inl rfl) _).setCell (p := ⟨w.heap.size + 1, 0, none⟩) (fun _ => .inr (.inl rfl)) _).setCell (p := ⟨w.heap.size + 1, 1, none⟩) (fun _ => .inr (.inl rfl)) _).setCell (p := ⟨w.heap.size + 1 + 1, 0, none⟩) (fun _ => .inr (.inr rfl)) _)).drew
  have k4 : ((((wr.setCell ⟨w.heap.size, 0, none⟩ (.slice la n4 lcap)).setCell ⟨w.heap.size + 1, 0, none⟩ (.slice a3 n3 cap3)).setCell ⟨w.heap.size + 1, 1, none⟩ (.int .i64 nx)).setCell ⟨w.heap.size + 1 + 1, 0, none⟩ (.int .i64 0)).heap[w.heap.size]? = some (.cells #[.slice la n4 lcap] 40 (0, 0)) := by
    rw [Below.heap_setCell _ _ _ _ (by show w.heap.size ≠ w.heap.size + 1 + 1; omega), Below.heap_setCell _ _ _ _ (by show w.heap.size ≠ w.heap.size + 1; omega), Below.heap_setCell _ _ _ _ (by show w.heap.size ≠ w.heap.size + 1; omega), box_store _ R.c4]; rfl
  have k5 : ((((wr.setCell ⟨w.heap.size, 0, none⟩ (.slice la n4 lcap)).setCell ⟨w.heap.size + 1, 0, none⟩ (.slice a3 n3 cap3)).setCell ⟨w.heap.size + 1, 1, none⟩ (.int .i64 nx)).setCell ⟨w.heap.size + 1 + 1, 0, none⟩ (.int .i64 0)).heap[w.heap.size + 1]? = some (.cells #[.slice a3 n3 cap3, .int .i64 nx] 45 (0, 0)) := by
    have h5 : (wr.setCell ⟨w.heap.size, 0, none⟩ (.slice la n4 lcap)).heap[w.heap.size + 1]? = some (.cells #[.slice none 0 0, .int .i64 0] 45 (0, 0)) := by rw [Below.heap_setCell _ _ _ _ (by show w.heap.size + 1 ≠ w.heap.size; omega)]; exact R.c5
    rw [Below.heap_setCell _ _ _ _ (by show w.heap.size + 1 ≠ w.heap.size + 1 + 1; omega), box_store _ (box_store _ h5)]; rfl
  have k6 : ((((wr.setCell ⟨w.heap.size, 0, none⟩ (.slice la n4 lcap)).setCell ⟨w.heap.size + 1, 0, none⟩ (.slice a3 n3 cap3)).setCell ⟨w.heap.size + 1, 1, none⟩ (.int .i64 nx)).setCell ⟨w.heap.size + 1 + 1, 0, none⟩ (.int .i64 0)).heap[w.heap.size + 1 + 1]? = some (.cells #[.int .i64 0] 29 (0, 0)) := by
    have h6 : (((wr.setCell ⟨w.heap.size, 0, none⟩ (.slice la n4 lcap)).setCell ⟨w.heap.size + 1, 0, none⟩ (.slice a3 n3 cap3)).setCell ⟨w.heap.size + 1, 1, none⟩ (.int .i64 nx)).heap[w.heap.size + 1 + 1]? = some (.cells #[.int .i64 0] 29 (0, 0)) := by
      rw [Below.heap_setCell _ _ _ _ (by show w.heap.size + 1 + 1 ≠ w.heap.size + 1; omega), Below.heap_setCell _ _ _ _ (by show w.heap.size + 1 + 1 ≠ w.heap.size + 1; omega), Below.heap_setCell _ _ _ _ (by show w.heap.size + 1 + 1 ≠ w.heap.size; omega)]; exact R.c6
    rw [box_store _ h6]; rfl
  generalize hW : ((((wr.setCell ⟨w.heap.size, 0, none⟩ (.slice la n4 lcap)).setCell ⟨w.heap.size + 1, 0, none⟩ (.slice a3 n3 cap3)).setCell ⟨w.heap.size + 1, 1, none⟩ (.int .i64 nx)).setCell ⟨w.heap.size + 1 + 1, 0, none⟩ (.int .i64 0)) = W at *
  clear hW
  have hb0 := R.below.size
  have hmb : w.heap.size + 1 + 1 + 1 + 1 < wr.heap.size := R.maker.lt
  refine leaves_cons (f := 19) (args := #[.pointer (some ⟨w.heap.size, 0, none⟩), .pointer (some ⟨w.heap.size + 1, 0, none⟩), .pointer (some ⟨w.heap.size + 1 + 1, 0, none⟩)]) (by simp) (by simp [go_sem]) ?_
  refine (catch_idle _ _ _ W.drew).mono ?_
  rintro e u' w5 ⟨rfl, rfl, rfl⟩
  have c4 : W.drew.cell? ⟨w.heap.size, 0, none⟩ = some (.slice la n4 lcap) := cell_of_heap (w := W.drew) k4 rfl
  have c5 : W.drew.cell? ⟨w.heap.size + 1, 0, none⟩ = some (.slice a3 n3 cap3) := cell_of_heap (w := W.drew) k5 rfl
  have c5' : W.drew.cell? ⟨w.heap.size + 1, 1, none⟩ = some (.int .i64 nx) := cell_of_heap (w := W.drew) k5 rfl
  have c6 : W.drew.cell? ⟨w.heap.size + 1 + 1, 0, none⟩ = some (.int .i64 0) := cell_of_heap (w := W.drew) k6 rfl
  have hbb : Below w.heap.size w W.drew := R.below.trans (hm.below hb0 (fun k hk => by omega))
  have hM := R.maker.kept hm (by omega) (fun k hk => by omega)
  have hO := R.lits.kept hm (fun _ h => h.elim) (fun k hk => by have := R.low k hk; omega)
  have hR : MadePost w (allGo l next [] []) (.returned (.tuple #[.slice la n4 lcap, .agg #[.slice a3 n3 cap3, .int .i64 nx], .int .i64 0])) W.drew := by
    rw [heq]
    exact ⟨_, _, rfl, hO.read (fun _ h => h.elim) (fun k hk => ⟨by have := R.low k hk; omega, hO.row_lt hk⟩) (by rw [dints_widths]; simp), maker_read hM (fun k hk => by omega), hbb⟩
  generalize W.drew = W' at *
  simp only [Leaves, settle]
  refine ⟨_, ?_, hR⟩
  simp [results, Tryd.results13, go_sem, t4, t5, t6, c4, c5, c5', c6]

theorem slot_is {ts : Array Value} {ds : List Deferred} {a0 : Act} {t : Nat} {p : Addr} (h : slot ⟨ts, ds⟩ t = slot a0 t) (h0 : slot a0 t = .pointer (some p)) : ts[t]? = some (.pointer (some p)) := by
  rw [h0] at h
  unfold slot at h
  simp only [Array.getD_eq_getD_getElem?] at h
  cases hx : ts[t]? with
  | none => rw [hx] at h; simp [undef] at h
  | some v => rw [hx] at h; simp at h; rw [h]

theorem made_lit {w w3 : World} {l : List Tr} {next : Int} {j : Nat} {lv v' x : Value} {r q : Option Nat} {xs : List Int} {ls : List Lin} {nx : Int} (R : MadeRel w w3 l next j lv v' r q xs ls nx) (hj : j < l.length) (ht : TreeV w (· < w.heap.size) l[j] x) (hsz : sizes l ≤ 200000) (hce : checkE l[j] (nx - 1) = 0) :
    Calls Tryd.prog 21 #[.pointer (some ⟨w.heap.size + 1 + 1 + 1 + 1, 0, none⟩), x] w3.drew (LitOut w3.drew (fun k => w.heap.size + 4 < k ∧ k < w3.heap.size ∧ q ≠ some k) (w.heap.size + 1 + 1 + 1 + 1) [.map (some (w.heap.size + 1 + 1 + 1))] ls r (.int .i64 (litF l[j] nx).1) (litF l[j] nx).2.1 (litF l[j] nx).2.2) := by
  have hb : Below w3.heap.size w3 w3.drew := below_undrew (Below.refl _ _)
  obtain ⟨c1, c2, c3, c4⟩ := checkE_ok hce
  have h1 := R.lo
  have h2 := R.hi
  have h3 := R.nlin
  have h4 := sizes_take_succ l j hj
  have h5 := sizes_take_le l (j + 1)
  have hbb := R.below.size
  refine lit_own _ l[j] x (nx - 1) nx v' ls r w3.drew w.heap.size (w.heap.size + 1 + 1 + 1 + 1) (w.heap.size + 1 + 1 + 1) _ (Nat.le_refl _) c3 c2 h1 h2 (by omega) (by omega) (ht.agree ?_) (by exact hbb) (by omega) (fun k hk => by omega) R.kinds (by omega) (fun h => by omega) (R.maker.below hb)
  exact agree_of_below (R.below.trans (hb.mono hbb))
theorem made_lit_stop {w w3 : World} {l : List Tr} {next : Int} {j : Nat} {lv v' x : Value} {r q : Option Nat} {xs : List Int} {ls : List Lin} {nx : Int} (R : MadeRel w w3 l next j lv v' r q xs ls nx) (hj : j < l.length) (ht : TreeV w (· < w.heap.size) l[j] x) (hsz : sizes l ≤ 200000) (hce : checkE l[j] (nx - 1) = 0) (hov : 65537 < (litF l[j] nx).2.2) :
    Calls Tryd.prog 21 #[.pointer (some ⟨w.heap.size + 1 + 1 + 1 + 1, 0, none⟩), x] w3.drew (Stops (fun k => k = w.heap.size + 1 + 1 + 1 + 1 ∨ r = some k) w3.drew) :=
  (made_lit R hj ht hsz hce).mono (fun e w' h => by rcases h with h | h; exact h.2; omega)
theorem made_lit_ok {w w3 : World} {l : List Tr} {next : Int} {j : Nat} {lv v' x : Value} {r q : Option Nat} {xs : List Int} {ls : List Lin} {nx : Int} (R : MadeRel w w3 l next j lv v' r q xs ls nx) (hj : j < l.length) (ht : TreeV w (· < w.heap.size) l[j] x) (hsz : sizes l ≤ 200000) (hce : checkE l[j] (nx - 1) = 0) (hov : (litF l[j] nx).2.2 ≤ 65537) :
    Calls Tryd.prog 21 #[.pointer (some ⟨w.heap.size + 1 + 1 + 1 + 1, 0, none⟩), x] w3.drew (LitPost w3.drew (fun k => w.heap.size + 4 < k ∧ k < w3.heap.size ∧ q ≠ some k) (w.heap.size + 1 + 1 + 1 + 1) 55 42 [.map (some (w.heap.size + 1 + 1 + 1))] ls r (.int .i64 (litF l[j] nx).1) (litF l[j] nx).2.1 (litF l[j] nx).2.2) :=
  (made_lit R hj ht hsz hce).mono (fun e w' h => by rcases h with h | h; omega; exact h.2)

set_option maxRecDepth 100000 in
set_option maxHeartbeats 1000000 in
theorem made_loop (l : List Tr) (next : Int) (a : Option Addr) (b o cap : Nat) (w : World) (hl : TreesIn w (· < w.heap.size) l b o) (hsl : SlAt (· < w.heap.size) a b o l.length) (hsz : sizes l ≤ 200000) (h1 : 1 ≤ next) (h2 : next ≤ 65537) :
    Calls Tryd.prog 13 #[.slice a l.length cap, .int .i64 next] w (MadePost w (allGo l next [] [])) := by
  have hll := length_le_sizes l
  have HL := Lib.hid hl
  clear hl
  have hmf : ∀ (fn : Fn) (first cap : Array Value) (w : World), (Instr.makeFunc fn first cap).run Tryd.prog w = .ok (.func fn first cap) w := fun _ _ _ _ => rfl
  go_enter_defers Tryd.func13, Tryd.ntmps13
  go_wp2_with fail
  refine (kinds_any _).mono ?_
  rintro e w1 ⟨rfl, rfl⟩
  go_wp2_with fail
  go_loopw [26, 9, 10] (fun i _ _ wr => ∃ (j : Nat) (lv v' : Value) (r q : Option Nat) (xs : List Int) (ls : List Lin) (nx : Int), i = .int .i64 j ∧ MadeRel w wr l next j lv v' r q xs ls nx) (fun i _ _ _ => l.length - (intOf i).toNat)
  case atStart => exact ⟨0, _, _, _, _, _, _, _, rfl, MadeRel.start w l next h1 h2⟩
  case round =>
    obtain ⟨j, lv, v', r, q, xs, ls, nx, rfl, R⟩ := hrel
    have hj := R.le
    have hnx1 := R.lo
    have hnx2 := R.hi
    have hbs := R.below.size
    obtain ⟨la, lcap, hlv⟩ := R.lits.form
    rw [dints_length] at hlv
    subst hlv
    have hm4 : w.heap.size + 1 + 1 + 1 + 1 < wr.heap.size := R.maker.lt
    by_cases hlt : j < l.length
    · obtain ⟨rfl, hbl⟩ := hsl (by omega)
      obtain ⟨k0, k1, k2, a1, n1, cap1, e0, e1, e2, e3, htj⟩ := TreesIn.at HL.out R.below hbl j hlt
      have hts : (l[j]).size ≤ 200000 := by have := size_le_sizes l j hlt; omega
      have HTV : Hid (∀ W, Below w.heap.size w W → TreeV W (· < W.heap.size) l[j] (.agg #[.int .i64 k0, .int .i64 k1, .int .i64 k2, .slice a1 n1 cap1])) := fun W hb => htj.later hb hb.size
      have HTJ := Lib.hid htj
      obtain ⟨p0, p1, p2, p3⟩ := R.maker.cells
      have HR := Lib.hid R
      have HG := Lib.hid (gatesF_cases l[j] nx hnx1 hnx2)
      have HS1 : Hid (w.heap.size ≤ wr.heap.size) := hbs
      have HS2 : Hid ((l[j]).size ≤ 2000000) := by show _ ≤ _; omega
      clear R htj
      generalize hce : checkE l[j] (nx - 1) = ce at *
      have HCE := Lib.hid hce
      clear hce
      go_upto_region 8 with (fail)
      have hwr : IntKind.i64.wrap (nx - 1) = nx - 1 := IntWalk.i64_in _ (by omega)
      refine wp_region_noPanic ?_
      go_region_law (go_simp; go_at_call 14; (with_reducible refine (check_any l[j] _ (nx - 1) _ HS2.out (HTV.out _ (below_undrew (HR.out.below.alloc HS1.out _)))).mono ?_); rintro e w2 ⟨rfl, hb2⟩; have HB2 := Lib.hid hb2; clear hb2; rw [HCE.out])
      all_goals
        refine NoPanic.normal ?_
        clear hwr
        obtain ⟨z0, z1, z2, z3⟩ := boxed4 (below_drew HB2.out) (by simp)
        have HBW := Lib.hid (Below.ahead (below_drew HB2.out) (by simp))
        have HR2 := Lib.hid (HR.out.kept HBW.out)
        have hs2 : wr.heap.size < w2.heap.size := by have := (below_drew HB2.out).size; simp at this; omega
        clear HB2 p0 p1 p2 p3 e0 e1 e2 e3
        rcases HG.out with ⟨hc, hg⟩ | ⟨hc, hw, hg⟩ | ⟨hc, hw, hov, hg⟩ | ⟨hc, hw, hov, hg⟩
        · have hne : (ce != 0) = true := by simpa using hc
          have HRES : Hid (allGo l next [] [] = ([], [], 0, ce)) := HR2.out.eq.trans (allGo_stop hlt hg hc)
          clear hg hc
          go_wp2_with fail
          exact made_stop HRES.out HR2.out.below HR2.out.c4 HR2.out.c5 HR2.out.c6 rfl rfl rfl
        · subst hc
          have HRES : Hid (allGo l next [] [] = ([], [], 0, 2)) := HR2.out.eq.trans (allGo_stop hlt hg (by simp))
          have HW := Lib.hid hw
          clear hg hw
          go_wp2_with fail
          refine (wide_any _ l[j] _ _ (Nat.le_refl _) HS2.out (HTV.out _ HR2.out.below)).mono ?_
          rintro e w3 ⟨rfl, hb3⟩
          rw [HW.out]
          have HR3 := Lib.hid (HR2.out.kept hb3)
          clear hb3
          go_wp2_with fail
          exact made_stop HRES.out HR3.out.below HR3.out.c4 HR3.out.c5 HR3.out.c6 rfl rfl rfl
        · subst hc
          have HRES : Hid (allGo l next [] [] = ([], [], 0, 2)) := HR2.out.eq.trans (allGo_stop hlt hg (by simp))
          have HW := Lib.hid hw
          have HOV := Lib.hid hov
          clear hg hw hov
          go_wp2_with fail
          refine (wide_any _ l[j] _ _ (Nat.le_refl _) HS2.out (HTV.out _ HR2.out.below)).mono ?_
          rintro e w3 ⟨rfl, hb3⟩
          rw [HW.out]
          have HR3 := Lib.hid (HR2.out.kept hb3)
          have y0 := (hb3.cell (p := ⟨wr.heap.size, 0, none⟩) hs2).trans z0
          have y1 := (hb3.cell (p := ⟨wr.heap.size, 1, none⟩) hs2).trans z1
          have y2 := (hb3.cell (p := ⟨wr.heap.size, 2, none⟩) hs2).trans z2
          have y3 := (hb3.cell (p := ⟨wr.heap.size, 3, none⟩) hs2).trans z3
          clear hb3 z0 z1 z2 z3
          have HLC : Hid (Calls Tryd.prog 21 #[.pointer (some ⟨w.heap.size + 1 + 1 + 1 + 1, 0, none⟩), .agg #[.int .i64 k0, .int .i64 k1, .int .i64 k2, .slice a1 n1 cap1]] w3.drew (Stops (fun k => k = w.heap.size + 1 + 1 + 1 + 1 ∨ r = some k) w3.drew)) := made_lit_stop HR3.out hlt HTJ.out hsz HCE.out HOV.out
          go_upto_region 13 with (fail)
          refine stop_region (mb := w.heap.size + 1 + 1 + 1 + 1) (b4 := w.heap.size) (b9 := wr.heap.size) rfl ⟨_, rfl⟩ ⟨_, rfl⟩ ⟨_, rfl⟩ ⟨_, rfl⟩ ⟨_, _, rfl⟩ ⟨_, _, rfl⟩ ⟨_, _, rfl⟩ (by show 52 < 59; omega) rfl rfl rfl (cell_of_heap HR3.out.c4 rfl) y0 y1 y2 y3 HLC.out ?_
          intro a' w' hdf hfar hm
          obtain ⟨_, keep⟩ := HR3.out.behind hm
          have b1 : Below w.heap.size w3 w' := by
            have := hm.below (B := w.heap.size) (by have := HR3.out.below.size; exact this) (fun k hk => by
              rcases hk with h | h
              · omega
              · have := (HR3.out.maker.row k h).1.1; omega)
            exact ⟨this.os, this.tape, this.output, this.size, this.block⟩
          obtain ⟨ts, ds⟩ := a'
          simp only at hdf
          subst hdf
          exact made_stop HRES.out (HR3.out.below.trans b1) (keep _ _ (by omega) HR3.out.c4) (keep _ _ (by omega) HR3.out.c5) (keep _ _ (by omega) HR3.out.c6) (slot_is (hfar 4 (by omega)) rfl) (slot_is (hfar 5 (by omega)) rfl) (slot_is (hfar 6 (by omega)) rfl)
        · subst hc
          have HW := Lib.hid hw
          have HOV := Lib.hid hov
          have HGT := Lib.hid hg
          clear hg hw hov
          go_wp2_with fail
          refine (wide_any _ l[j] _ _ (Nat.le_refl _) HS2.out (HTV.out _ HR2.out.below)).mono ?_
          rintro e w3 ⟨rfl, hb3⟩
          rw [HW.out]
          have HR3 := Lib.hid (HR2.out.kept hb3)
          have y0 := (hb3.cell (p := ⟨wr.heap.size, 0, none⟩) hs2).trans z0
          have y1 := (hb3.cell (p := ⟨wr.heap.size, 1, none⟩) hs2).trans z1
          have y2 := (hb3.cell (p := ⟨wr.heap.size, 2, none⟩) hs2).trans z2
          have y3 := (hb3.cell (p := ⟨wr.heap.size, 3, none⟩) hs2).trans z3
          have y4 : w3.cell? ⟨w.heap.size, 0, none⟩ = some (.slice la xs.length lcap) := cell_of_heap HR3.out.c4 rfl
          clear hb3 z0 z1 z2 z3
          obtain ⟨m1, m2, m3, m4⟩ := checkE_ok HCE.out
          have hbd := litF_bound l[j] nx (nx - 1) m3 hnx1
          have hyb : -9223372036854775808 ≤ (litF l[j] nx).1 ∧ (litF l[j] nx).1 ≤ 9223372036854775807 := by have := HOV.out; omega
          have HBD := Lib.hid hbd
          have HXL := Lib.hid HR3.out.nlen
          have hxl : xs.length ≤ 200000 := by have := HR3.out.nlen; omega
          have HLC := Lib.hid (made_lit_ok HR3.out hlt HTJ.out hsz HCE.out HOV.out)
          obtain ⟨i0, hi, hz0, hz1, hz2⟩ := info_parts sums_info
          generalize hy : (litF l[j] nx).1 = y at *
          clear hy hbd m1 m2 m3 m4
          go_upto_region 13 with (fail)
          refine wp_region_noPanic ?_
          go_region_law (first | (refine step_append_lies _ (by rfl) _ _ _ (by rfl) 0 3 i0 _ 1 8 Tryd.underlying40 hi hz0 hz1 hz2 rfl (by omega) (.slice la xs.length lcap) xs.length (xs.map (Value.int .i64)) (by rfl) (HO4.out.1.alloc _).int_cells.1 ⟨w4.heap.size, 0, none⟩ 1 1 [.int .i64 y] (by rfl) (by rfl) (cell_one_new _ _ _) (by simp [Value.oneCell']) (by omega) (by unfold maxLen; omega) (by omega) (Nat.zero_le _) (w4.heap.size + 1) (by simp) ?_; intro g cp w5 hown hgrow hat hglt; obtain ⟨⟨hcz, hfz⟩, hst⟩ := HR3.out.step hlt HP.out HGT.out HBD.out.1 HOV.out (litF_lins l[j] nx) hyb hown hgrow hat; have HST := Lib.hid hst; clear hst hown hgrow hat) | (go_simp; go_at_call 21; (with_reducible refine HLC.out.mono ?_); intro e w4 hp; have HP := Lib.hid hp; obtain ⟨rfl, _, _, _, _, hmd⟩ := hp; have HO4 := Lib.hid (HR3.out.behind hmd); have x4 : w4.cell? ⟨w.heap.size, 0, none⟩ = some (.slice la xs.length lcap) := cell_of_heap (HO4.out.2 _ _ (by omega) HR3.out.c4) rfl; have x5 : w.heap.size < w4.heap.size := (Array.getElem?_eq_some_iff.1 (HO4.out.2 _ _ (by omega) HR3.out.c4)).1; clear hmd))
          all_goals
            refine NoPanic.normal ?_
            obtain ⟨v2, r2, R2⟩ := HST.out
            have HRN := Lib.hid R2
            clear R2
            go_wp2_with fail
            go_roundw
            case rel => exact ⟨j + 1, _, v2, r2, _, _, _, _, by go_num, HRN.out⟩
            case measure => simp [intOf]; omega
    · obtain rfl : j = l.length := by omega
      have heq := R.eq
      rw [List.drop_of_length_le (Nat.le_refl _), allGo] at heq
      obtain ⟨p0, p1, p2, p3⟩ := R.maker.cells
      have x4 : wr.cell? ⟨w.heap.size, 0, none⟩ = some (.slice la xs.length lcap) := cell_of_heap R.c4 rfl
      have x5 : wr.cell? ⟨w.heap.size + 1, 0, none⟩ = some (.slice none 0 0) := cell_of_heap R.c5 rfl
      have x5' : wr.cell? ⟨w.heap.size + 1, 1, none⟩ = some (.int .i64 0) := cell_of_heap R.c5 rfl
      have x6 : wr.cell? ⟨w.heap.size + 1 + 1, 0, none⟩ = some (.int .i64 0) := cell_of_heap R.c6 rfl
      have f4 : wr.frozen? ⟨w.heap.size, 0, none⟩ = false := frozen_of_heap R.c4
      have f5 : wr.frozen? ⟨w.heap.size + 1, 0, none⟩ = false := frozen_of_heap R.c5
      have f5' : wr.frozen? ⟨w.heap.size + 1, 1, none⟩ = false := frozen_of_heap R.c5
      have f6 : wr.frozen? ⟨w.heap.size + 1 + 1, 0, none⟩ = false := frozen_of_heap R.c6
      obtain ⟨a3, n3, cap3, hv3⟩ : ∃ a n cap, v' = .slice a n cap := by
        obtain ⟨_, ⟨F, o, _⟩, _, _⟩ := R.maker
        obtain ⟨a, cap, h⟩ := o.form; exact ⟨a, _, cap, h⟩
      subst hv3
      have HEQ := Lib.hid heq
      have HR := Lib.hid R
      clear heq R
      go_wp2_with fail
      refine wp_region_noPanic ?_
      go_region
      all_goals
        refine NoPanic.normal ?_
        go_wp2_with fail
        exact made_done HR.out HEQ.out rfl rfl rfl

theorem made_any (l : List Tr) (next : Int) (x : Value) (w : World) (hd : DAt w (· < w.heap.size) (.sl (l.map Tr.toD)) [x]) (hsz : sizes l ≤ 200000) :
    Calls Tryd.prog 13 #[x, .int .i64 next] w (MadePost w (allF l next)) := by
  obtain ⟨a, b, o, cap, he, h1, h2, h3, h4⟩ := Tr.open_slice hd
  simp only [List.cons.injEq, and_true] at he
  subst he
  unfold allF
  by_cases h0 : next < 1 ∨ 65537 < next
  · rw [if_pos h0]; exact made_arg l next a cap w h0
  · rw [if_neg h0]; exact made_loop l next a b o cap w h4 h1 hsz (by omega) (by omega)

end Go.Proofs.YtpacnaeckbcpjaaDoor
