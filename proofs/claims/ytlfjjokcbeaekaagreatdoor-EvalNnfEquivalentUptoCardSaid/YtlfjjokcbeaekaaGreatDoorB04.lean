/- Joined texts: Own. -/
import Derived.Test.YtlfjjokcbeaekaaGreatDoorB03
import Derived.Maps.AppendAt

/- Slices of the call's own, as data; what a call may have turned; the program's constraints ('Lin') as Lean data. -/
namespace Go.Chalk
open Go.RowKit

/-- Of the blocks that were there only those of S may have turned. -/
structure Mod (S : Nat → Prop) (w w' : World) : Prop where
  os : w'.os = w.os
  tape : w'.tape = w.tape
  output : w'.output = w.output
  size : w.heap.size ≤ w'.heap.size
  block : ∀ k, k < w.heap.size → ¬ S k → w'.heap[k]? = w.heap[k]?

theorem Mod.refl (S : Nat → Prop) (w : World) : Mod S w w := ⟨rfl, rfl, rfl, Nat.le_refl _, fun _ _ _ => rfl⟩
theorem Mod.trans {S T : Nat → Prop} {a b c : World} (h : Mod S a b) (k : Mod T b c) (hT : ∀ i, i < a.heap.size → T i → S i) : Mod S a c :=
  ⟨k.os.trans h.os, k.tape.trans h.tape, k.output.trans h.output, Nat.le_trans h.size k.size,
    fun i hi hs => (k.block i (Nat.lt_of_lt_of_le hi h.size) (fun ht => hs (hT i hi ht))).trans (h.block i hi hs)⟩
theorem Mod.mono {S T : Nat → Prop} {a b : World} (h : Mod S a b) (hT : ∀ i, S i → T i) : Mod T a b :=
  ⟨h.os, h.tape, h.output, h.size, fun i hi hs => h.block i hi (fun ht => hs (hT i ht))⟩
theorem Mod.of_below {S : Nat → Prop} {w w' : World} (h : Below w.heap.size w w') : Mod S w w' := ⟨h.os, h.tape, h.output, h.size, fun k hk _ => h.block k hk⟩
theorem Mod.of_grown {S : Nat → Prop} {w w' : World} {r : Option Nat} (h : w.grownBy w' r) (hr : ∀ k, r = some k → S k) : Mod S w w' :=
  ⟨h.os, h.tape, h.output, h.size, fun k hk hs => h.block k hk (fun e => hs (hr k e.symm))⟩
theorem Mod.below {S : Nat → Prop} {w w' : World} {B : Nat} (h : Mod S w w') (hB : B ≤ w.heap.size) (hS : ∀ k, S k → B ≤ k) : Below B w w' :=
  ⟨h.os, h.tape, h.output, h.size, fun k hk => h.block k (by omega) (fun hs => by have := hS k hs; omega)⟩
theorem Mod.setCell {S : Nat → Prop} {a w : World} (h : Mod S a w) {p : Addr} (hp : p.block < a.heap.size → S p.block) (u : Value) : Mod S a (w.setCell p u) :=
  h.trans (T := fun k => k = p.block) ⟨rfl, rfl, rfl, by simp [World.setCell], fun k _ hk => Below.heap_setCell _ _ _ _ hk⟩ (fun i hi e => by subst e; exact hp hi)
theorem Mod.alloc {S : Nat → Prop} {a w : World} (h : Mod S a w) (o : Obj) : Mod S a (w.alloc o) :=
  h.trans (T := fun _ => False) ⟨rfl, rfl, rfl, by simp, fun k hk _ => Below.heap_alloc _ _ _ hk⟩ (fun _ _ e => e.elim)
theorem Mod.drew {S : Nat → Prop} {a w : World} (h : Mod S a w) : Mod S a w.drew := ⟨h.os, h.tape, h.output, h.size, h.block⟩
theorem Mod.agree {S F : Nat → Prop} {w w' : World} (h : Mod S w w') (hF : ∀ k, F k → k < w.heap.size ∧ ¬ S k) : Agree F w w' := fun k hk => h.block k (hF k hk).1 (hF k hk).2

/-- The cells of a row. -/
theorem RowAt.cells {w : World} {F : Nat → Prop} : ∀ {xs : List D} {b o : Nat}, RowAt w F xs b o → ∃ cs, DsAt w F xs cs ∧ CellsAt w b o cs
  | [], _, _, _ => ⟨[], by rw [DsAt], fun j hj => by simp at hj⟩
  | x :: r, b, o, h => by
    rw [RowAt] at h
    obtain ⟨⟨c1, h1, h2⟩, hr⟩ := h
    obtain ⟨c2, h3, h4⟩ := hr.cells
    refine ⟨c1 ++ c2, by rw [DsAt]; exact ⟨c1, c2, rfl, h1, h3⟩, fun j hj => ?_⟩
    by_cases hlt : j < c1.length
    · rw [List.getElem_append_left hlt]; exact h2 j hlt
    · rw [List.getElem_append_right (by omega)]
      have := h4 (j - c1.length) (by simp at hj; omega)
      have hw := DAt.length x c1 h1
      rwa [show o + x.width + (j - c1.length) = o + j from by omega] at this
mutual
theorem DAt.one {w : World} {F : Nat → Prop} : ∀ (x : D) (cs : List Value), DAt w F x cs → ∀ u ∈ cs, u.oneCell' = true
  | .int _ _, _, h => by rw [DAt] at h; obtain ⟨rfl, _⟩ := h; simp [Value.oneCell']
  | .bool _, _, h => by rw [DAt] at h; subst h; simp [Value.oneCell']
  | .str _, _, h => by rw [DAt] at h; obtain ⟨rfl, _⟩ := h; simp [Value.oneCell']
  | .sl _, _, h => by rw [DAt] at h; obtain ⟨_, _, _, _, rfl, _⟩ := h; simp [Value.oneCell']
  | .st xs, cs, h => by rw [DAt] at h; exact DsAt.one xs cs h
theorem DsAt.one {w : World} {F : Nat → Prop} : ∀ (xs : List D) (cs : List Value), DsAt w F xs cs → ∀ u ∈ cs, u.oneCell' = true
  | [], _, h => by rw [DsAt] at h; subst h; simp
  | x :: r, cs, h => by
    rw [DsAt] at h; obtain ⟨c1, c2, rfl, h1, h2⟩ := h
    intro u hu
    rcases List.mem_append.1 hu with hu | hu
    · exact DAt.one x c1 h1 u hu
    · exact DsAt.one r c2 h2 u hu
end
/-- A slice that is read and not empty, as the source of an append. -/
theorem DAt.source {w : World} {F : Nat → Prop} {xs : List D} {v : Value} (h : DAt w F (.sl xs) [v]) (hn : 0 < xs.length) :
    ∃ b o cap cs, v = .slice (some ⟨b, o, none⟩) xs.length cap ∧ DsAt w F xs cs ∧ (∀ j u, cs[j]? = some u → w.cell? ((⟨b, o, none⟩ : Addr).add j) = some u) ∧ (∀ u ∈ cs, u.oneCell' = true) ∧ F b := by
  rw [DAt] at h
  obtain ⟨a, b, o, cap, e, hs, _, _, hr⟩ := h
  obtain ⟨rfl, hb⟩ := hs hn
  obtain ⟨cs, h1, h2⟩ := hr.cells
  simp only [List.cons.injEq, and_true] at e
  refine ⟨b, o, cap, cs, e, h1, fun j u hu => ?_, DsAt.one _ _ h1, hb⟩
  obtain ⟨hj, rfl⟩ := List.getElem?_eq_some_iff.1 hu
  have := h2 j hj
  unfold Addr.add
  by_cases h0 : j = 0
  · subst h0; simpa using this
  · rw [if_neg h0]; exact this

/-- v is a slice of the call's own: its row is the block r (none: it is nil), its elements the data xs; what they lead to lies in F. -/
structure Own (w : World) (F : Nat → Prop) (e : TypeId) (sz : Nat) (v : Value) (r : Option Nat) (xs : List D) : Prop where
  cells : ∃ cs, w.ownsRow 0 e sz v xs.length cs ∧ DsAt w F xs cs
  row : v.ownBlock = r
  off : ∀ k, r = some k → ¬ F k
  lt : ∀ k, F k → k < w.heap.size

theorem Own.nil (w : World) (F : Nat → Prop) (e : TypeId) (sz : Nat) (lt : ∀ k, F k → k < w.heap.size) : Own w F e sz (.slice none 0 0) none [] :=
  ⟨⟨[], World.ownsRow_nil w 0 e sz, by rw [DsAt]⟩, rfl, fun _ h => (by cases h), lt⟩

theorem Own.row_lt {w : World} {F : Nat → Prop} {e : TypeId} {sz : Nat} {v : Value} {r : Option Nat} {xs : List D} (h : Own w F e sz v r xs) {k : Nat} (hr : r = some k) : k < w.heap.size := by
  obtain ⟨cs, h1, _⟩ := h.cells
  exact (h1.lt k (h.row.trans hr)).2

theorem Own.kept {w w' : World} {F : Nat → Prop} {e : TypeId} {sz : Nat} {v : Value} {r : Option Nat} {xs : List D} (h : Own w F e sz v r xs) {S : Nat → Prop} (hm : Mod S w w') (hF : ∀ k, F k → ¬ S k) (hr : ∀ k, r = some k → ¬ S k) : Own w' F e sz v r xs := by
  obtain ⟨cs, ⟨h1, h2⟩, h3⟩ := h.cells
  refine ⟨⟨cs, ⟨h1, ?_⟩, DsAt.agree (hm.agree (fun k hk => ⟨h.lt k hk, hF k hk⟩)) _ _ h3⟩, h.row, h.off, fun k hk => Nat.lt_of_lt_of_le (h.lt k hk) hm.size⟩
  rcases h2 with h2 | ⟨g, cap, cur, hv, hg, hh, rest⟩
  · exact .inl h2
  · have hrow : r = some g := by rw [← h.row, hv]; rfl
    refine .inr ⟨g, cap, cur, hv, hg, ?_, rest⟩
    rw [hm.block g (h.row_lt hrow) (hr g hrow)]; exact hh

theorem Own.widen {w : World} {F G : Nat → Prop} {e : TypeId} {sz : Nat} {v : Value} {r : Option Nat} {xs : List D} (h : Own w F e sz v r xs) (hFG : ∀ k, F k → G k) (hr : ∀ k, r = some k → ¬ G k) (hlt : ∀ k, G k → k < w.heap.size) : Own w G e sz v r xs := by
  obtain ⟨cs, h1, h2⟩ := h.cells
  exact ⟨⟨cs, h1, DsAt.mono hFG _ _ h2⟩, h.row, hr, hlt⟩

/-- What an append leaves. -/
theorem Own.appended {w w' : World} {F : Nat → Prop} {e : TypeId} {sz : Nat} {v v' : Value} {r : Option Nat} {xs ys : List D} {cs news : List Value} (h : Own w F e sz v r xs) (hcs : DsAt w F xs cs)
    (h1 : w'.ownsRow 0 e sz v' (xs.length + ys.length) (cs ++ news)) (hg : w.grownBy w' v.ownBlock) (hat : v'.ownBlock = v.ownBlock ∨ v'.ownBlock = some w.heap.size) (hn : DsAt w F ys news) :
    Own w' F e sz v' v'.ownBlock (xs ++ ys) ∧ Mod (fun k => r = some k) w w' ∧ (v'.ownBlock = r ∨ v'.ownBlock = some w.heap.size) := by
  have hm : Mod (fun k => r = some k) w w' := Mod.of_grown hg (fun k hk => by rw [← h.row]; exact hk)
  have ha : Agree F w w' := hm.agree (fun k hk => ⟨h.lt k hk, fun hr => h.off k hr hk⟩)
  refine ⟨⟨⟨cs ++ news, by rw [List.length_append]; exact h1, DsAt.append (DsAt.agree ha _ _ hcs) (DsAt.agree ha _ _ hn)⟩, rfl, fun k hk hF => ?_, fun k hk => Nat.lt_of_lt_of_le (h.lt k hk) hm.size⟩, hm, by rw [← h.row]; exact hat⟩
  rcases hat with hat | hat
  · exact h.off k (by rw [← h.row, ← hat]; exact hk) hF
  · rw [hat] at hk
    have := h.lt k hF
    simp at hk; omega

/-- The slice, read as a datum. -/
theorem Own.read {w : World} {F G : Nat → Prop} {e : TypeId} {sz : Nat} {v : Value} {r : Option Nat} {xs : List D} (h : Own w F e sz v r xs) (hFG : ∀ k, F k → G k) (hr : ∀ k, r = some k → G k) (hw : widths xs = xs.length * sz) : DAt w G (.sl xs) [v] := by
  obtain ⟨cs, h1, h2⟩ := h.cells
  have h1' := h1
  obtain ⟨hlen, h1⟩ := h1
  rcases h1 with ⟨rfl, hn⟩ | ⟨g, cap, cur, rfl, _, hh, hc1, hc2, hc3, hc4⟩
  · obtain rfl : xs = [] := List.length_eq_zero_iff.1 hn
    exact DAt.slice (xs := []) (b := 0) (o := 0) (a := none) (fun h => by simp at h) (Nat.le_refl _) (Nat.zero_le _) (by rw [RowAt]; trivial)
  · refine DAt.slice (b := g) (o := 0) (fun _ => ⟨rfl, hr g (h.row ▸ rfl)⟩) hc1 hc2 (RowAt.mk (cs := cs) (DsAt.mono hFG _ _ h2) (fun j hj => ?_))
    have := h1'.cellAt (g := g) (cap := cap) j (by rw [← hlen]; exact hj)
    simp only [Nat.zero_add]
    rw [this]; simp [hj]

/-- A slice that was just written out: one new block. -/
theorem Own.lit {w : World} {F : Nat → Prop} {e : TypeId} {sz n : Nat} {cs : List Value} {xs : List D} (hn : xs.length = n) (hmx : n ≤ maxLen) (hl : cs.length = n * sz) (h : DsAt w F xs cs) (lt : ∀ k, F k → k < w.heap.size) :
    Own (w.alloc (.cells cs.toArray e)) F e sz (.slice (some ⟨w.heap.size, 0, none⟩) n n) (some w.heap.size) xs := by
  refine ⟨⟨cs, ?_, DsAt.agree (fun k hk => Below.heap_alloc _ _ _ (lt k hk)) _ _ h⟩, rfl, fun k hk hF => by have := lt k hF; simp at hk; omega, fun k hk => by have := lt k hk; simp; omega⟩
  subst hn
  exact ⟨hl, .inr ⟨w.heap.size, xs.length, cs.toArray, rfl, Nat.zero_le _, by show (w.heap.push _)[w.heap.size]? = _; simp, Nat.le_refl _, hmx, by simp [hl], by simp [← hl]⟩⟩

/-- Ints. -/
def dints (xs : List Int) : List D := xs.map (D.int .i64)
@[simp] theorem dints_length (xs : List Int) : (dints xs).length = xs.length := by simp [dints]
theorem dints_append (xs ys : List Int) : dints (xs ++ ys) = dints xs ++ dints ys := by simp [dints]
theorem dints_widths : ∀ xs : List Int, widths (dints xs) = xs.length
  | [] => rfl
  | x :: r => by
    have := dints_widths r
    simp only [dints, List.map_cons, widths, D.width] at this ⊢
    simp only [List.length_cons]; omega
def AllI64 (xs : List Int) : Prop := ∀ x ∈ xs, -9223372036854775808 ≤ x ∧ x ≤ 9223372036854775807
theorem DsAt.ints {w : World} {F : Nat → Prop} : ∀ {xs : List Int}, AllI64 xs → DsAt w F (dints xs) (xs.map (Value.int .i64))
  | [], _ => by rw [dints, List.map_nil, DsAt]; rfl
  | x :: r, h => by
    rw [dints, List.map_cons, DsAt]
    exact ⟨[.int .i64 x], r.map (Value.int .i64), rfl, by rw [DAt]; exact ⟨rfl, WalkArith.wf_i64 (h x (by simp))⟩, DsAt.ints (fun y hy => h y (by simp [hy]))⟩
theorem DsAt.ints_inv {w : World} {F : Nat → Prop} : ∀ {xs : List Int} {cs : List Value}, DsAt w F (dints xs) cs → cs = xs.map (Value.int .i64) ∧ AllI64 xs
  | [], _, h => by rw [dints, List.map_nil, DsAt] at h; exact ⟨h, fun x hx => by simp at hx⟩
  | x :: r, cs, h => by
    rw [dints, List.map_cons, DsAt] at h
    obtain ⟨c1, c2, rfl, h1, h2⟩ := h
    rw [DAt] at h1
    obtain ⟨rfl, h1⟩ := h1
    obtain ⟨rfl, h3⟩ := DsAt.ints_inv (xs := r) h2
    exact ⟨rfl, fun y hy => by rcases List.mem_cons.1 hy with rfl | hy; exact wf_i64 h1; exact h3 y hy⟩
/-- A slice of ints that is read. -/
theorem DAt.open_ints {w : World} {F : Nat → Prop} {xs : List Int} {cs : List Value} (h : DAt w F (.sl (dints xs)) cs) :
    ∃ a b o cap, cs = [.slice a xs.length cap] ∧ SlAt F a b o xs.length ∧ xs.length ≤ cap ∧ cap ≤ maxLen ∧ AllI64 xs ∧ ∀ (i : Nat) (h : i < xs.length), w.cell? ⟨b, o + i, none⟩ = some (.int .i64 xs[i]) := by
  rw [DAt] at h
  obtain ⟨a, b, o, cap, rfl, h1, h2, h3, h4⟩ := h
  rw [dints_length] at h1 h2
  have key : ∀ (i : Nat) (hi : i < xs.length), w.cell? ⟨b, o + i, none⟩ = some (.int .i64 xs[i]) ∧ (Lit.int .i64 xs[i]).wf = true := by
    intro i hi
    obtain ⟨cs, g1, g2⟩ := h4.get (sz := 1) (fun x hx => by simp only [dints, List.mem_map] at hx; obtain ⟨y, _, rfl⟩ := hx; rfl) i (by simpa using hi)
    have e : (dints xs)[i]'(by simpa using hi) = .int .i64 xs[i] := by simp [dints]
    rw [e, DAt] at g1
    obtain ⟨rfl, g1⟩ := g1
    exact ⟨by simpa using g2 0 (by simp), g1⟩
  refine ⟨a, b, o, cap, by rw [dints_length], h1, h2, h3, fun x hx => ?_, fun i hi => (key i hi).1⟩
  obtain ⟨i, hi, rfl⟩ := List.mem_iff_getElem.1 hx
  exact wf_i64 (key i hi).2

theorem Own.form {w : World} {F : Nat → Prop} {e : TypeId} {sz : Nat} {v : Value} {r : Option Nat} {xs : List D} (h : Own w F e sz v r xs) : ∃ a cap, v = .slice a xs.length cap := by
  obtain ⟨cs, h1, _⟩ := h.cells
  rcases h1.2 with ⟨rfl, hn⟩ | ⟨g, cap, cur, rfl, _⟩
  · exact ⟨none, 0, by rw [hn]⟩
  · exact ⟨_, cap, rfl⟩
theorem ownsRow_below {w w' : World} {e : TypeId} {sz : Nat} {v : Value} {n : Nat} {xs : List Value} (h : w.ownsRow 0 e sz v n xs) (hb : Below w.heap.size w w') : w'.ownsRow 0 e sz v n xs := by
  obtain ⟨h1, h2⟩ := h
  refine ⟨h1, ?_⟩
  rcases h2 with h2 | ⟨g, cap, cur, hv, hg, hh, rest⟩
  · exact .inl h2
  · exact .inr ⟨g, cap, cur, hv, hg, (hb.block g (Array.getElem?_eq_some_iff.1 hh).1).trans hh, rest⟩

/-- A constraint. -/
structure Lin where
  c : List Int
  l : List Int
  least : Int
def Lin.toD (x : Lin) : D := .st [.sl (dints x.c), .sl (dints x.l), .int .i64 x.least]
theorem Lin.width (x : Lin) : x.toD.width = 3 := by simp [Lin.toD, D.width, widths]
theorem lins_widths : ∀ xs : List Lin, widths (xs.map Lin.toD) = xs.length * 3
  | [] => rfl
  | x :: r => by
    have := lins_widths r
    simp only [List.map_cons, widths, Lin.width, List.length_cons]; omega

theorem Lin.at {w : World} {F : Nat → Prop} {c l : List Int} {least : Int} {vC vL : Value} (hC : DAt w F (.sl (dints c)) [vC]) (hL : DAt w F (.sl (dints l)) [vL]) (h : -9223372036854775808 ≤ least ∧ least ≤ 9223372036854775807) :
    DsAt w F [Lin.toD ⟨c, l, least⟩] [vC, vL, .int .i64 least] := by
  rw [DsAt]
  refine ⟨_, [], (List.append_nil _).symm, ?_, by rw [DsAt]⟩
  rw [Lin.toD, DAt, DsAt]
  refine ⟨[vC], _, rfl, hC, ?_⟩
  rw [DsAt]
  refine ⟨[vL], _, rfl, hL, ?_⟩
  rw [DsAt]
  exact ⟨[.int .i64 least], [], rfl, by rw [DAt]; exact ⟨rfl, WalkArith.wf_i64 h⟩, by rw [DsAt]⟩

/-- A store into a block that is not the slice's own. -/
theorem Own.store {w : World} {F : Nat → Prop} {e : TypeId} {sz : Nat} {v : Value} {r : Option Nat} {xs : List D} (h : Own w F e sz v r xs) {A i : Nat} (u : Value) (hF : ¬ F A) (hr : r ≠ some A) : Own (w.setCell ⟨A, i, none⟩ u) F e sz v r xs :=
  h.kept (S := fun k => k = A) ((Mod.refl (fun k => k = A) w).setCell (p := ⟨A, i, none⟩) (fun _ => rfl) u) (fun k hk e => hF (e ▸ hk)) (fun k hk e => hr (e ▸ hk))
theorem box_store {w : World} {A i : Nat} {cs : Array Value} {t : TypeId} {fz : Nat × Nat} (u : Value) (h : w.heap[A]? = some (.cells cs t fz)) : (w.setCell ⟨A, i, none⟩ u).heap[A]? = some (.cells (cs.setIfInBounds i u) t fz) := by
  simp [World.setCell, Array.getElem?_modify, h]
theorem frozen_of_heap {w : World} {b i : Nat} {cs : Array Value} {t : TypeId} (h : w.heap[b]? = some (.cells cs t (0, 0))) : w.frozen? ⟨b, i, none⟩ = false := by
  simp [World.frozen?, h]
theorem Own.alloc {w : World} {F : Nat → Prop} {e : TypeId} {sz : Nat} {v : Value} {r : Option Nat} {xs : List D} (h : Own w F e sz v r xs) (o : Obj) : Own (w.alloc o) F e sz v r xs :=
  h.kept (S := fun _ => False) ((Mod.refl _ w).alloc o) (fun _ _ e => e) (fun _ _ e => e)
theorem Own.below {w w' : World} {F : Nat → Prop} {e : TypeId} {sz : Nat} {v : Value} {r : Option Nat} {xs : List D} (h : Own w F e sz v r xs) (hb : Below w.heap.size w w') : Own w' F e sz v r xs :=
  h.kept (S := fun _ => False) (Mod.of_below hb) (fun _ _ e => e) (fun _ _ e => e)
/-- An own slice of ints: its cells. -/
theorem Own.int_cells {w : World} {F : Nat → Prop} {e : TypeId} {v : Value} {r : Option Nat} {xs : List Int} (h : Own w F e 1 v r (dints xs)) : w.ownsRow 0 e 1 v xs.length (xs.map (Value.int .i64)) ∧ AllI64 xs := by
  obtain ⟨cs, h1, h2⟩ := h.cells
  obtain ⟨rfl, h3⟩ := DsAt.ints_inv h2
  exact ⟨by simpa using h1, h3⟩
theorem Own.int_appended {w w' : World} {F : Nat → Prop} {e : TypeId} {v v' : Value} {r : Option Nat} {xs ys : List Int} (h : Own w F e 1 v r (dints xs)) (hy : AllI64 ys)
    (h1 : w'.ownsRow 0 e 1 v' (xs.length + ys.length) (xs.map (Value.int .i64) ++ ys.map (Value.int .i64))) (hg : w.grownBy w' v.ownBlock) (hat : v'.ownBlock = v.ownBlock ∨ v'.ownBlock = some w.heap.size) :
    Own w' F e 1 v' v'.ownBlock (dints (xs ++ ys)) ∧ Mod (fun k => r = some k) w w' ∧ (v'.ownBlock = r ∨ v'.ownBlock = some w.heap.size) := by
  rw [dints_append]
  exact h.appended (DsAt.ints h.int_cells.2) (by simpa using h1) hg hat (DsAt.ints hy)

/-- A variable of the call's own that holds a constraint under way: the block A; its two slices own the blocks r1, r2. -/
structure LinBox (w : World) (A : Nat) (tl ti : TypeId) (v1 v2 : Value) (r1 r2 : Nat) (c l : List Int) (least : Int) : Prop where
  box : w.heap[A]? = some (.cells #[v1, v2, .int .i64 least] tl (0, 0))
  o1 : Own w (fun _ => False) ti 1 v1 (some r1) (dints c)
  o2 : Own w (fun _ => False) ti 1 v2 (some r2) (dints l)
  n12 : r1 ≠ r2
  n1 : r1 ≠ A
  n2 : r2 ≠ A
theorem LinBox.kept {w w' : World} {A : Nat} {tl ti : TypeId} {v1 v2 : Value} {r1 r2 : Nat} {c l : List Int} {least : Int} (h : LinBox w A tl ti v1 v2 r1 r2 c l least) {S : Nat → Prop} (hm : Mod S w w') (hA : ¬ S A) (h1 : ¬ S r1) (h2 : ¬ S r2) : LinBox w' A tl ti v1 v2 r1 r2 c l least :=
  ⟨(hm.block A (Array.getElem?_eq_some_iff.1 h.box).1 hA).trans h.box, h.o1.kept hm (fun _ e => e.elim) (fun k hk => by cases hk; exact h1), h.o2.kept hm (fun _ e => e.elim) (fun k hk => by cases hk; exact h2), h.n12, h.n1, h.n2⟩
theorem LinBox.alloc {w : World} {A : Nat} {tl ti : TypeId} {v1 v2 : Value} {r1 r2 : Nat} {c l : List Int} {least : Int} (h : LinBox w A tl ti v1 v2 r1 r2 c l least) (o : Obj) : LinBox (w.alloc o) A tl ti v1 v2 r1 r2 c l least :=
  h.kept (S := fun _ => False) ((Mod.refl _ w).alloc o) id id id
theorem LinBox.lt {w : World} {A : Nat} {tl ti : TypeId} {v1 v2 : Value} {r1 r2 : Nat} {c l : List Int} {least : Int} (h : LinBox w A tl ti v1 v2 r1 r2 c l least) : A < w.heap.size ∧ r1 < w.heap.size ∧ r2 < w.heap.size :=
  ⟨(Array.getElem?_eq_some_iff.1 h.box).1, h.o1.row_lt rfl, h.o2.row_lt rfl⟩
/-- The cells that a walk wants. -/
theorem LinBox.cells {w : World} {A : Nat} {tl ti : TypeId} {v1 v2 : Value} {r1 r2 : Nat} {c l : List Int} {least : Int} (h : LinBox w A tl ti v1 v2 r1 r2 c l least) :
    w.cell? ⟨A, 0, none⟩ = some v1 ∧ w.cell? ⟨A, 1, none⟩ = some v2 ∧ w.cell? ⟨A, 2, none⟩ = some (.int .i64 least) ∧ w.frozen? ⟨A, 0, none⟩ = false ∧ w.frozen? ⟨A, 1, none⟩ = false :=
  ⟨cell_of_heap h.box rfl, cell_of_heap h.box rfl, cell_of_heap h.box rfl, frozen_of_heap h.box, frozen_of_heap h.box⟩
theorem own_slice {w : World} {e : TypeId} {v : Value} {n : Nat} {xs : List Value} (h : w.ownsRow 0 e 1 v (n + 1) xs) : ∃ g cap, v = .slice (some ⟨g, 0, none⟩) (n + 1) cap := by
  rcases h.2 with ⟨_, h⟩ | ⟨g, cap, cur, rfl, _⟩
  · omega
  · exact ⟨g, cap, rfl⟩
/-- Behind 'x.C = append(x.C, y)': between the append and the store; behind the store. -/
theorem LinBox.push1 {w w1 : World} {A : Nat} {tl ti : TypeId} {v1 v2 v1' : Value} {r1 r2 : Nat} {c l : List Int} {least y : Int} (h : LinBox w A tl ti v1 v2 r1 r2 c l least) (hy : -9223372036854775808 ≤ y ∧ y ≤ 9223372036854775807)
    (ho : w1.ownsRow 0 ti 1 v1' (c.length + 1) (c.map (Value.int .i64) ++ [.int .i64 y])) (hg : w.grownBy w1 v1.ownBlock) (hat : v1'.ownBlock = v1.ownBlock ∨ v1'.ownBlock = some w.heap.size) :
    ∃ r1', w1.heap[A]? = some (.cells #[v1, v2, .int .i64 least] tl (0, 0)) ∧ Mod (fun k => k = r1) w w1 ∧ LinBox (w1.setCell ⟨A, 0, none⟩ v1') A tl ti v1' v2 r1' r2 (c ++ [y]) l least ∧ (r1' = r1 ∨ r1' = w.heap.size) ∧ Mod (fun k => k = r1 ∨ k = A) w (w1.setCell ⟨A, 0, none⟩ v1') := by
  obtain ⟨g1, g2, g3⟩ := h.o1.int_appended (ys := [y]) (fun x hx => by simp at hx; subst hx; exact hy) (by simpa using ho) hg hat
  have hm : Mod (fun k => k = r1) w w1 := g2.mono (fun k hk => by simpa using hk.symm)
  obtain ⟨g, cap, hv⟩ := own_slice ho
  have hb : w1.heap[A]? = some (.cells #[v1, v2, .int .i64 least] tl (0, 0)) := (hm.block A h.lt.1 (fun e => h.n1 e.symm)).trans h.box
  have hr : v1'.ownBlock = some g := by rw [hv]; rfl
  rw [hr] at g1 g3
  have hg' : g = r1 ∨ g = w.heap.size := by simpa using g3
  have hlt := h.lt
  have hn1 := h.n1
  have hn2 := h.n2
  have hn12 := h.n12
  have o2 := h.o2.kept hm (fun _ e => e.elim) (fun k hk => by cases hk; omega)
  have hM : Mod (fun k => k = r1 ∨ k = A) w (w1.setCell ⟨A, 0, none⟩ v1') := (hm.mono (fun k hk => .inl hk)).setCell (p := ⟨A, 0, none⟩) (fun _ => .inr rfl) _
  refine ⟨g, hb, hm, ⟨by rw [box_store _ hb]; rfl, g1.store _ id (by simp; omega), o2.store _ id (by simp; omega), by omega, by omega, hn2⟩, hg', hM⟩
theorem LinBox.push2 {w w1 : World} {A : Nat} {tl ti : TypeId} {v1 v2 v2' : Value} {r1 r2 : Nat} {c l : List Int} {least y : Int} (h : LinBox w A tl ti v1 v2 r1 r2 c l least) (hy : -9223372036854775808 ≤ y ∧ y ≤ 9223372036854775807)
    (ho : w1.ownsRow 0 ti 1 v2' (l.length + 1) (l.map (Value.int .i64) ++ [.int .i64 y])) (hg : w.grownBy w1 v2.ownBlock) (hat : v2'.ownBlock = v2.ownBlock ∨ v2'.ownBlock = some w.heap.size) :
    ∃ r2', w1.heap[A]? = some (.cells #[v1, v2, .int .i64 least] tl (0, 0)) ∧ Mod (fun k => k = r2) w w1 ∧ LinBox (w1.setCell ⟨A, 1, none⟩ v2') A tl ti v1 v2' r1 r2' c (l ++ [y]) least ∧ (r2' = r2 ∨ r2' = w.heap.size) ∧ Mod (fun k => k = r2 ∨ k = A) w (w1.setCell ⟨A, 1, none⟩ v2') := by
  obtain ⟨g1, g2, g3⟩ := h.o2.int_appended (ys := [y]) (fun x hx => by simp at hx; subst hx; exact hy) (by simpa using ho) hg hat
  have hm : Mod (fun k => k = r2) w w1 := g2.mono (fun k hk => by simpa using hk.symm)
  obtain ⟨g, cap, hv⟩ := own_slice ho
  have hb : w1.heap[A]? = some (.cells #[v1, v2, .int .i64 least] tl (0, 0)) := (hm.block A h.lt.1 (fun e => h.n2 e.symm)).trans h.box
  have hr : v2'.ownBlock = some g := by rw [hv]; rfl
  rw [hr] at g1 g3
  have hg' : g = r2 ∨ g = w.heap.size := by simpa using g3
  have hlt := h.lt
  have hn1 := h.n1
  have hn2 := h.n2
  have hn12 := h.n12
  have o1 := h.o1.kept hm (fun _ e => e.elim) (fun k hk => by cases hk; omega)
  have hM : Mod (fun k => k = r2 ∨ k = A) w (w1.setCell ⟨A, 1, none⟩ v2') := (hm.mono (fun k hk => .inl hk)).setCell (p := ⟨A, 1, none⟩) (fun _ => .inr rfl) _
  refine ⟨g, hb, hm, ⟨by rw [box_store _ hb]; rfl, o1.store _ id (by simp; omega), g1.store _ id (by simp; omega), by omega, hn1, by omega⟩, hg', hM⟩
/-- The constraint, read. -/
theorem LinBox.read {w : World} {G : Nat → Prop} {A : Nat} {tl ti : TypeId} {v1 v2 : Value} {r1 r2 : Nat} {c l : List Int} {least : Int} (h : LinBox w A tl ti v1 v2 r1 r2 c l least) (h1 : G r1) (h2 : G r2) (hl : -9223372036854775808 ≤ least ∧ least ≤ 9223372036854775807) :
    DsAt w G [Lin.toD ⟨c, l, least⟩] [v1, v2, .int .i64 least] :=
  Lin.at (h.o1.read (fun _ e => e.elim) (fun k hk => by cases hk; exact h1) (by rw [dints_widths]; simp)) (h.o2.read (fun _ e => e.elim) (fun k hk => by cases hk; exact h2) (by rw [dints_widths]; simp)) hl

end Go.Chalk
