/- The encoding of a tree by constraints, as a Lean function; its bounds. The builder in memory. -/
import Derived.Test.YtpacnaeckbcpjaaDoorOwn
import Derived.Test.YtpacnaeckbcpjaaDoorTree
namespace Go.Chalk
open Go.RowKit

/-- The defining constraints of x for 'at least k of ls'. -/
def sumsF (x k : Int) (ls : List Int) : List Lin :=
  if k ≤ 0 then [⟨[1], [x], 1⟩]
  else if (ls.length : Int) < k then [⟨[1], [-x], 1⟩]
  else [⟨k :: ls.map (fun _ => 1), -x :: ls, k⟩, ⟨((ls.length : Int) - k + 1) :: ls.map (fun _ => 1), x :: ls.map (- ·), (ls.length : Int) - k + 1⟩]

/-- The datum lies in memory that has come since w. -/
def NewAt (w w' : World) (x : D) (cs : List Value) : Prop := DAt w' (fun k => w.heap.size ≤ k ∧ k < w'.heap.size) x cs

/-- A node's threshold. -/
def thrF (kind v k n : Int) : Int := if kind = 4 then n else if kind = 5 then 1 else if kind = 6 then k else 1 - v

theorem thrF_10 (k n : Int) : thrF 1 0 k n = 1 := rfl
theorem thrF_11 (k n : Int) : thrF 1 1 k n = 0 := rfl
theorem thrF_4 (v k n : Int) : thrF 4 v k n = n := rfl
theorem thrF_5 (v k n : Int) : thrF 5 v k n = 1 := rfl
theorem thrF_6 (v k n : Int) : thrF 6 v k n = k := rfl

mutual
/-- The literal of a tree, its constraints, the next unused variable. -/
def litF : Tr → Int → Int × List Lin × Int
  | .mk kind v k l, nx =>
    if kind = 2 then (v, [], nx)
    else if kind = 3 then (- (litsF l nx).1.headD 0, (litsF l nx).2.1, (litsF l nx).2.2)
    else ((litsF l nx).2.2, (litsF l nx).2.1 ++ sumsF (litsF l nx).2.2 (thrF kind v k l.length) (litsF l nx).1, (litsF l nx).2.2 + 1)
def litsF : List Tr → Int → List Int × List Lin × Int
  | [], nx => ([], [], nx)
  | t :: r, nx => ((litF t nx).1 :: (litsF r (litF t nx).2.2).1, (litF t nx).2.1 ++ (litsF r (litF t nx).2.2).2.1, (litsF r (litF t nx).2.2).2.2)
end

theorem litsF_snoc : ∀ (l : List Tr) (t : Tr) (nx : Int), litsF (l ++ [t]) nx = ((litsF l nx).1 ++ [(litF t (litsF l nx).2.2).1], (litsF l nx).2.1 ++ (litF t (litsF l nx).2.2).2.1, (litF t (litsF l nx).2.2).2.2)
  | [], t, nx => by simp [litsF]
  | x :: r, t, nx => by
    rw [List.cons_append, litsF, litsF_snoc r t, litsF]
    simp
theorem litsF_length : ∀ (l : List Tr) (nx : Int), (litsF l nx).1.length = l.length
  | [], _ => rfl
  | t :: r, nx => by rw [litsF]; simp [litsF_length r]

mutual
theorem litF_bound : ∀ (t : Tr) (nx n : Int), mayB t n = true → 1 ≤ nx →
    nx ≤ (litF t nx).2.2 ∧ (litF t nx).2.2 ≤ nx + t.size ∧ (litF t nx).1 ≠ 0 ∧ (- (litF t nx).1 ≤ n ∨ - (litF t nx).1 < (litF t nx).2.2) ∧ ((litF t nx).1 ≤ n ∨ (litF t nx).1 < (litF t nx).2.2)
  | .mk kind v k l, nx, n, h, hnx => by
    rw [mayB, Bool.and_eq_true] at h
    have hb := litsF_bound l nx n h.2 hnx
    have hs : ((Tr.mk kind v k l).size : Int) = 1 + sizes l := by rw [Tr.size]; omega
    have hc := nodeOk_true h.1
    rw [litF]
    by_cases h2 : kind = 2
    · rw [if_pos h2]
      rcases hc with hc | hc | hc | hc | hc | hc | hc <;> simp only [] <;> omega
    · rw [if_neg h2]
      by_cases h3 : kind = 3
      · rw [if_pos h3]
        have hl : l.length = 1 := by
          rcases hc with hc | hc | hc | hc | hc | hc | hc <;> first | omega | (have := hc.2.2.2; simp at this; omega)
        match l, hl with
        | [t], _ =>
          rw [mayAll, Bool.and_eq_true] at h
          have ht := litF_bound t nx n h.2.1 hnx
          simp only [litsF, List.headD_cons] at hb ⊢
          simp only [sizes] at hs
          omega
      · rw [if_neg h3]
        simp only
        omega
theorem litsF_bound : ∀ (l : List Tr) (nx n : Int), mayAll l n = true → 1 ≤ nx →
    nx ≤ (litsF l nx).2.2 ∧ (litsF l nx).2.2 ≤ nx + sizes l ∧ ∀ y ∈ (litsF l nx).1, y ≠ 0 ∧ (-y ≤ n ∨ -y < (litsF l nx).2.2) ∧ (y ≤ n ∨ y < (litsF l nx).2.2)
  | [], nx, n, _, _ => by simp [litsF, sizes]
  | t :: r, nx, n, h, hnx => by
    rw [mayAll, Bool.and_eq_true] at h
    have ht := litF_bound t nx n h.1 hnx
    have hr := litsF_bound r (litF t nx).2.2 n h.2 (by omega)
    rw [litsF]
    simp only [sizes, List.mem_cons]
    refine ⟨by omega, by omega, fun y hy => ?_⟩
    rcases hy with rfl | hy
    · omega
    · exact hr.2.2 y hy
end

theorem sumsF_length (x k : Int) (ls : List Int) : (sumsF x k ls).length ≤ 2 := by
  unfold sumsF; split
  · simp
  · split <;> simp
theorem sumsF_pos (x k : Int) (ls : List Int) : 0 < (sumsF x k ls).length := by
  unfold sumsF; split
  · simp
  · split <;> simp
mutual
theorem litF_lins : ∀ (t : Tr) (nx : Int), (litF t nx).2.1.length ≤ 2 * t.size
  | .mk kind v k l, nx => by
    have := litsF_lins l nx
    rw [litF, Tr.size]
    split
    · simp
    · split
      · simp only; omega
      · have := sumsF_length (litsF l nx).2.2 (thrF kind v k l.length) (litsF l nx).1
        simp only [List.length_append]; omega
theorem litsF_lins : ∀ (l : List Tr) (nx : Int), (litsF l nx).2.1.length ≤ 2 * sizes l
  | [], _ => by simp [litsF]
  | t :: r, nx => by
    have := litF_lins t nx
    have := litsF_lins r (litF t nx).2.2
    rw [litsF, sizes]; simp only [List.length_append]; omega
end
theorem mayAll_at {l : List Tr} {n : Int} (h : mayAll l n = true) (j : Nat) (hj : j < l.length) : mayB l[j] n = true ∧ mayAll (l.take j) n = true := by
  have h2 := mayAll_take_succ l n j hj
  have h1 : mayAll (l.take (j + 1)) n = true := by
    rw [mayAll_eq] at h ⊢
    rw [List.all_eq_true] at h ⊢
    exact fun x hx => h x (List.mem_of_mem_take hx)
  rw [h1] at h2
  have := Bool.and_eq_true_iff.1 h2.symm
  exact ⟨this.2, this.1⟩
theorem mayAll_take {l : List Tr} {n : Int} (h : mayAll l n = true) (j : Nat) : mayAll (l.take j) n = true := by
  rw [mayAll_eq] at h ⊢
  rw [List.all_eq_true] at h ⊢
  exact fun x hx => h x (List.mem_of_mem_take hx)

/-- What Gates answers: the literal, the constraints, the next variable, the error. -/
def gatesF (t : Tr) (next : Int) : Int × List Lin × Int × Int :=
  if next < 1 ∨ 65537 < next then (0, [], 0, 1)
  else if checkE t (next - 1) ≠ 0 then (0, [], 0, checkE t (next - 1))
  else if wideB t then (0, [], 0, 2)
  else if 65537 < (litF t next).2.2 then (0, [], 0, 2)
  else ((litF t next).1, (litF t next).2.1, (litF t next).2.2, 0)

theorem checkE_ok {t : Tr} {n : Int} (h : checkE t n = 0) : 0 ≤ n ∧ n ≤ 65536 ∧ mayB t n = true ∧ t.size ≤ 65536 := by
  unfold checkE at h
  by_cases h1 : n < 0 ∨ 65536 < n ∨ mayB t n = false
  · rw [if_pos h1] at h; omega
  · rw [if_neg h1] at h
    by_cases h2 : 65536 < t.size
    · rw [if_pos h2] at h; omega
    · simp at h1
      exact ⟨by omega, by omega, h1.2.2, by omega⟩
theorem checkE_range (t : Tr) (n : Int) : checkE t n = 0 ∨ checkE t n = 1 ∨ checkE t n = 2 := by
  unfold checkE; split
  · simp
  · split <;> simp

/-- A builder of constraints: the block mb holds its slice, the next variable, and ex; all that its slice leads to lies in blocks of G. -/
structure MkAt (w : World) (G : Nat → Prop) (mb : Nat) (tm tl : TypeId) (ex : List Value) (v : Value) (nx : Int) (ls : List Lin) (r : Option Nat) : Prop where
  box : w.heap[mb]? = some (.cells (v :: .int .i64 nx :: ex).toArray tm (0, 0))
  own : ∃ F, Own w F tl 3 v r (ls.map Lin.toD) ∧ ∀ k, F k → G k ∧ k ≠ mb
  row : ∀ k, r = some k → G k ∧ k ≠ mb
  inn : ∀ k, G k → k < w.heap.size
theorem MkAt.kept {w w' : World} {G : Nat → Prop} {mb : Nat} {tm tl : TypeId} {ex : List Value} {v : Value} {nx : Int} {ls : List Lin} {r : Option Nat} (h : MkAt w G mb tm tl ex v nx ls r) {S : Nat → Prop} (hm : Mod S w w') (hmb : ¬ S mb) (hG : ∀ k, G k → ¬ S k) : MkAt w' G mb tm tl ex v nx ls r := by
  obtain ⟨h1, ⟨F, h2, h3⟩, h4, h5⟩ := h
  exact ⟨(hm.block mb (Array.getElem?_eq_some_iff.1 h1).1 hmb).trans h1, ⟨F, h2.kept hm (fun k hk => hG k (h3 k hk).1) (fun k hk => hG k (h4 k hk).1), h3⟩, h4, fun k hk => Nat.lt_of_lt_of_le (h5 k hk) hm.size⟩
theorem MkAt.below {w w' : World} {G : Nat → Prop} {mb : Nat} {tm tl : TypeId} {ex : List Value} {v : Value} {nx : Int} {ls : List Lin} {r : Option Nat} (h : MkAt w G mb tm tl ex v nx ls r) (hb : Below w.heap.size w w') : MkAt w' G mb tm tl ex v nx ls r :=
  h.kept (S := fun _ => False) (Mod.of_below hb) id (fun _ _ => id)
theorem MkAt.mono {w : World} {G H : Nat → Prop} {mb : Nat} {tm tl : TypeId} {ex : List Value} {v : Value} {nx : Int} {ls : List Lin} {r : Option Nat} (h : MkAt w G mb tm tl ex v nx ls r) (hGH : ∀ k, G k → H k) (hH : ∀ k, H k → k < w.heap.size) : MkAt w H mb tm tl ex v nx ls r := by
  obtain ⟨h1, ⟨F, h2, h3⟩, h4, h5⟩ := h
  exact ⟨h1, ⟨F, h2, fun k hk => ⟨hGH k (h3 k hk).1, (h3 k hk).2⟩⟩, fun k hk => ⟨hGH k (h4 k hk).1, (h4 k hk).2⟩, hH⟩
theorem MkAt.lt {w : World} {G : Nat → Prop} {mb : Nat} {tm tl : TypeId} {ex : List Value} {v : Value} {nx : Int} {ls : List Lin} {r : Option Nat} (h : MkAt w G mb tm tl ex v nx ls r) : mb < w.heap.size := (Array.getElem?_eq_some_iff.1 h.box).1
theorem MkAt.cells {w : World} {G : Nat → Prop} {mb : Nat} {tm tl : TypeId} {ex : List Value} {v : Value} {nx : Int} {ls : List Lin} {r : Option Nat} (h : MkAt w G mb tm tl ex v nx ls r) :
    w.cell? ⟨mb, 0, none⟩ = some v ∧ w.cell? ⟨mb, 1, none⟩ = some (.int .i64 nx) ∧ w.frozen? ⟨mb, 0, none⟩ = false ∧ w.frozen? ⟨mb, 1, none⟩ = false :=
  ⟨cell_of_heap h.box (by simp), cell_of_heap h.box (by simp), frozen_of_heap h.box, frozen_of_heap h.box⟩
/-- The counter is stored anew. -/
theorem MkAt.count {w : World} {G : Nat → Prop} {mb : Nat} {tm tl : TypeId} {ex : List Value} {v : Value} {nx : Int} {ls : List Lin} {r : Option Nat} (h : MkAt w G mb tm tl ex v nx ls r) (nx' : Int) : MkAt (w.setCell ⟨mb, 1, none⟩ (.int .i64 nx')) G mb tm tl ex v nx' ls r := by
  obtain ⟨h1, ⟨F, h2, h3⟩, h4, h5⟩ := h
  exact ⟨by rw [box_store _ h1]; simp, ⟨F, h2.store _ (fun e => (h3 _ e).2 rfl) (fun e => (h4 _ e).2 rfl), h3⟩, h4, fun k hk => by have := h5 k hk; simpa [World.setCell] using this⟩
/-- The slice's row, for an append. -/
theorem MkAt.ownsRow {w : World} {G : Nat → Prop} {mb : Nat} {tm tl : TypeId} {ex : List Value} {v : Value} {nx : Int} {ls : List Lin} {r : Option Nat} (h : MkAt w G mb tm tl ex v nx ls r) : ∃ cs, w.ownsRow 0 tl 3 v ls.length cs := by
  obtain ⟨h1, ⟨F, h2, h3⟩, h4, h5⟩ := h
  obtain ⟨cs, g1, _⟩ := h2.cells
  exact ⟨cs, by simpa using g1⟩
theorem ownsRow_unique {w : World} {b : Nat} {e : TypeId} {sz : Nat} {v : Value} {n : Nat} {xs ys : List Value} (h : w.ownsRow b e sz v n xs) (k : w.ownsRow b e sz v n ys) : xs = ys := by
  obtain ⟨h1, h2⟩ := h
  obtain ⟨k1, k2⟩ := k
  rcases h2 with ⟨rfl, rfl⟩ | ⟨g, cap, cur, rfl, _, hh, _, _, _, hx⟩
  · simp at h1 k1; simp [h1, k1]
  · rcases k2 with ⟨k2, _⟩ | ⟨g', cap', cur', k2, _, kk, _, _, _, kx⟩
    · cases k2
    · simp at k2
      obtain ⟨rfl, rfl⟩ := k2
      rw [hh] at kk
      simp at kk
      subst kk
      rw [← hx, ← kx]
/-- The slice is stored anew, behind an append. -/
theorem MkAt.push {w w1 : World} {G H : Nat → Prop} {mb : Nat} {tm tl : TypeId} {ex : List Value} {v v' : Value} {nx : Int} {ls new : List Lin} {r : Option Nat} {news : List Value} {cs : List Value} (h : MkAt w G mb tm tl ex v nx ls r)
    (hH : ∀ k, H k → ¬ G k ∧ k ≠ mb ∧ k < w.heap.size) (hn : DsAt w H (new.map Lin.toD) news) (hcs : w.ownsRow 0 tl 3 v ls.length cs)
    (h1 : w1.ownsRow 0 tl 3 v' (ls.length + new.length) (cs ++ news)) (hg : w.grownBy w1 v.ownBlock) (hat : v'.ownBlock = v.ownBlock ∨ v'.ownBlock = some w.heap.size) :
    w1.heap[mb]? = some (.cells (v :: .int .i64 nx :: ex).toArray tm (0, 0)) ∧ MkAt (w1.setCell ⟨mb, 0, none⟩ v') (fun k => G k ∨ H k ∨ (k = w.heap.size ∧ k < w1.heap.size)) mb tm tl ex v' nx (ls ++ new) v'.ownBlock ∧ (v'.ownBlock = r ∨ v'.ownBlock = some w.heap.size) ∧ Mod (fun k => k = mb ∨ r = some k) w (w1.setCell ⟨mb, 0, none⟩ v') := by
  have hlt := h.lt
  obtain ⟨b1, ⟨F, b2, b3⟩, b4, b5⟩ := h
  have o := b2.widen (G := fun k => F k ∨ H k) (fun k hk => .inl hk) (fun k hk => fun e => by rcases e with e | e; exact b2.off k hk e; exact (hH k e).1 (b4 k hk).1) (fun k hk => by rcases hk with e | e; exact b2.lt k e; exact (hH k e).2.2)
  have hd : DsAt w F (ls.map Lin.toD) cs := by
    obtain ⟨cs', g1, g2⟩ := b2.cells
    rw [List.length_map] at g1
    rw [ownsRow_unique hcs g1]; exact g2
  obtain ⟨g1, g2, g3⟩ := o.appended (ys := new.map Lin.toD) (DsAt.mono (fun k hk => .inl hk) _ _ hd) (by simpa using h1) hg hat (DsAt.mono (fun k hk => .inr hk) _ _ hn)
  have hbx : w1.heap[mb]? = some (.cells (v :: .int .i64 nx :: ex).toArray tm (0, 0)) := (g2.block mb hlt (fun e => (b4 mb e).2 rfl)).trans b1
  have hrow : ∀ k, v'.ownBlock = some k → (G k ∨ H k ∨ (k = w.heap.size ∧ k < w1.heap.size)) ∧ k ≠ mb := by
    intro k hk
    have hk1 := (h1.lt k hk).2
    rcases g3 with g | g
    · exact ⟨.inl (b4 k (g ▸ hk)).1, (b4 k (g ▸ hk)).2⟩
    · rw [g] at hk; simp at hk; exact ⟨.inr (.inr ⟨hk.symm, hk1⟩), by omega⟩
  have hF : ∀ k, (F k ∨ H k) → (G k ∨ H k ∨ (k = w.heap.size ∧ k < w1.heap.size)) ∧ k ≠ mb := fun k hk => by rcases hk with e | e; exact ⟨.inl (b3 k e).1, (b3 k e).2⟩; exact ⟨.inr (.inl e), (hH k e).2.1⟩
  refine ⟨hbx, ⟨by rw [box_store _ hbx]; simp, ⟨_, ?_, hF⟩, hrow, fun k hk => ?_⟩, g3, (g2.mono (fun k hk => .inr hk)).setCell (p := ⟨mb, 0, none⟩) (fun _ => .inl rfl) _⟩
  · rw [List.map_append]
    exact g1.store _ (fun e => (hF _ e).2 rfl) (fun e => (hrow _ e).2 rfl)
  · have hs := g2.size
    have : k < w1.heap.size := by
      rcases hk with e | e | e
      · have := b5 k e; omega
      · have := (hH k e).2.2; omega
      · exact e.2
    simpa [World.setCell] using this

/-- What a call that encodes a tree leaves. -/
def LitPost (w : World) (G : Nat → Prop) (mb : Nat) (tm tl : TypeId) (ex : List Value) (ls : List Lin) (r : Option Nat) (x : Value) (new : List Lin) (nx' : Int) (e : Ending) (w' : World) : Prop :=
  e = .returned x ∧ ∃ v' r', MkAt w' (fun k => G k ∨ (w.heap.size ≤ k ∧ k < w'.heap.size)) mb tm tl ex v' nx' (ls ++ new) r' ∧ (r' = r ∨ ∃ k, r' = some k ∧ w.heap.size ≤ k) ∧ Mod (fun k => k = mb ∨ r = some k) w w'

theorem LitPost.same {w w' : World} {G : Nat → Prop} {mb : Nat} {tm tl : TypeId} {ex : List Value} {v x : Value} {nx : Int} {ls : List Lin} {r : Option Nat} (h : MkAt w G mb tm tl ex v nx ls r) (hb : Below w.heap.size w w') : LitPost w G mb tm tl ex ls r x [] nx (.returned x) w' := by
  have g := h.below hb
  refine ⟨rfl, v, r, ?_, .inl rfl, Mod.of_below hb⟩
  rw [List.append_nil]
  exact g.mono (fun k hk => .inl hk) (fun k hk => by rcases hk with h | h; exact g.inn k h; exact h.2)
/-- New blocks ahead of the call; another answer. -/
theorem LitPost.ahead {w wa w' : World} {G : Nat → Prop} {mb : Nat} {tm tl : TypeId} {ex : List Value} {x y : Value} {nx : Int} {ls new : List Lin} {r : Option Nat} {e : Ending} (hb : Below w.heap.size w wa) (h : LitPost wa G mb tm tl ex ls r x new nx e w') : LitPost w G mb tm tl ex ls r y new nx (.returned y) w' := by
  obtain ⟨_, v', r', h1, h2, h3⟩ := h
  have hs := hb.size
  have hs' := h3.size
  refine ⟨rfl, v', r', h1.mono (fun k hk => by rcases hk with h | h; exact .inl h; exact .inr ⟨by omega, h.2⟩) (fun k hk => ?_), ?_, (Mod.of_below hb).trans h3 (fun _ _ h => h)⟩
  · rcases hk with h | h
    · exact h1.inn k (.inl h)
    · exact h.2
  · rcases h2 with h | ⟨k, h, hk⟩
    · exact .inl h
    · exact .inr ⟨k, h, by omega⟩
/-- Blocks laid behind. -/
theorem LitPost.behind {w w' w'' : World} {G : Nat → Prop} {mb : Nat} {tm tl : TypeId} {ex : List Value} {x : Value} {nx : Int} {ls new : List Lin} {r : Option Nat} {e : Ending} (h : LitPost w G mb tm tl ex ls r x new nx e w') (hb : Below w'.heap.size w' w'') : LitPost w G mb tm tl ex ls r x new nx e w'' := by
  obtain ⟨he, v', r', h1, h2, h3⟩ := h
  have hs := hb.size
  have g := h1.below hb
  exact ⟨he, v', r', g.mono (fun k hk => by rcases hk with h | h; exact .inl h; exact .inr ⟨h.1, by omega⟩) (fun k hk => by rcases hk with h | h; exact g.inn k (.inl h); exact h.2), h2, h3.trans (Mod.of_below (S := fun _ => False) hb) (fun _ _ h => h.elim)⟩

/-- What holds at each round of the loop over a node's parts: lv: the literals so far, in the row q. -/
structure LitRel (w wr : World) (G : Nat → Prop) (mb : Nat) (tm tl ti : TypeId) (ex : List Value) (ls : List Lin) (r : Option Nat) (bx : Obj) (l : List Tr) (nx : Int) (j : Nat) (lv : Value) (v' : Value) (r' q : Option Nat) : Prop where
  le : j ≤ l.length
  size : w.heap.size < wr.heap.size
  box : wr.heap[w.heap.size]? = some bx
  mod : Mod (fun k => k = mb ∨ r = some k) w wr
  maker : MkAt wr (fun k => G k ∨ (w.heap.size < k ∧ k < wr.heap.size ∧ q ≠ some k)) mb tm tl ex v' (litsF (l.take j) nx).2.2 (ls ++ (litsF (l.take j) nx).2.1) r'
  fresh : r' = r ∨ ∃ k, r' = some k ∧ w.heap.size ≤ k
  lits : Own wr (fun _ => False) ti 1 lv q (dints (litsF (l.take j) nx).1)
  low : ∀ k, q = some k → w.heap.size < k

theorem LitRel.start {w : World} {G : Nat → Prop} {mb : Nat} {tm tl ti : TypeId} {ex : List Value} {ls : List Lin} {r : Option Nat} {v : Value} {nx : Int} (bx : Obj) (l : List Tr) (h : MkAt w G mb tm tl ex v nx ls r) : LitRel w (w.alloc bx) G mb tm tl ti ex ls r bx l nx 0 (.slice none 0 0) v r none := by
  have g := h.below ((Below.refl _ _).alloc (Nat.le_refl _) bx)
  refine ⟨Nat.zero_le _, by simp, boxed (B := w.heap.size + 1) (Below.refl _ _) (by omega), (Mod.refl _ _).alloc _, ?_, .inl rfl, Own.nil _ _ _ _ (fun _ h => h.elim), fun _ h => by cases h⟩
  simp only [List.take_zero, litsF, List.append_nil]
  exact g.mono (fun k hk => .inl hk) (fun k hk => by rcases hk with h | h; exact g.inn k h; exact h.2.1)

/-- The literals' row behind the part's encoding. -/
theorem LitRel.row2 {w wr w2 : World} {G : Nat → Prop} {mb : Nat} {tm tl ti : TypeId} {ex : List Value} {ls ls' new : List Lin} {r r' q : Option Nat} {bx b1 b2 : Obj} {l : List Tr} {nx nx' : Int} {j : Nat} {lv v' : Value} {e : Ending} {x : Value} {H : Nat → Prop} (hmb : mb < w.heap.size) (hG : ∀ k, G k → k < w.heap.size)
    (R : LitRel w wr G mb tm tl ti ex ls r bx l nx j lv v' r' q) (hp : LitPost (wr.alloc b1) H mb tm tl ex ls' r' x new nx' e w2) : (w2.alloc b2).ownsRow 0 ti 1 lv (litsF (l.take j) nx).1.length ((litsF (l.take j) nx).1.map (Value.int .i64)) := by
  obtain ⟨le, size, box, mod, mk, fresh, lits, low⟩ := R
  obtain ⟨_, v'', r'', m1, f1, md1⟩ := hp
  have hr'q : ∀ k, q = some k → r' ≠ some k := fun k hk hr => by
    rcases (mk.row k hr).1 with h | h
    · have := hG k h; have := low k hk; omega
    · exact h.2.2 hk
  have lits2 : Own (w2.alloc b2) (fun _ => False) ti 1 lv q (dints (litsF (l.take j) nx).1) :=
    ((lits.alloc b1).kept md1 (fun _ h => h.elim) (fun k hk => fun h => by
      have := low k hk
      rcases h with h | h
      · omega
      · exact hr'q k hk h)).alloc b2
  exact lits2.int_cells.1

/-- One round: the part's own encoding, then 'lits = append(lits, y)'. -/
theorem LitRel.step {w wr w2 wz : World} {G : Nat → Prop} {mb : Nat} {tm tl ti : TypeId} {ex : List Value} {ls : List Lin} {r r' q : Option Nat} {bx b1 b2 : Obj} {l : List Tr} {nx : Int} {j : Nat} {lv v' : Value} {e : Ending} {g cap : Nat} {x : Value} (hmb : mb < w.heap.size) (hG : ∀ k, G k → k < w.heap.size) (hr : ∀ k, r = some k → k < w.heap.size)
    (R : LitRel w wr G mb tm tl ti ex ls r bx l nx j lv v' r' q) (hj : j < l.length)
    (hp : LitPost (wr.alloc b1) (fun k => G k ∨ (w.heap.size < k ∧ k < wr.heap.size ∧ q ≠ some k)) mb tm tl ex (ls ++ (litsF (l.take j) nx).2.1) r' x (litF l[j] (litsF (l.take j) nx).2.2).2.1 (litF l[j] (litsF (l.take j) nx).2.2).2.2 e w2)
    (hy : -9223372036854775808 ≤ (litF l[j] (litsF (l.take j) nx).2.2).1 ∧ (litF l[j] (litsF (l.take j) nx).2.2).1 ≤ 9223372036854775807)
    (ho : wz.ownsRow 0 ti 1 (.slice (some ⟨g, 0, none⟩) ((litsF (l.take j) nx).1.length + 1) cap) ((litsF (l.take j) nx).1.length + 1) ((litsF (l.take j) nx).1.map (Value.int .i64) ++ [.int .i64 (litF l[j] (litsF (l.take j) nx).2.2).1])) (hg : (w2.alloc b2).grownBy wz lv.ownBlock) (hat : lv.ownBlock = some g ∨ g = w2.heap.size + 1) :
    ∃ v'' r'', LitRel w wz G mb tm tl ti ex ls r bx l nx (j + 1) (.slice (some ⟨g, 0, none⟩) ((litsF (l.take j) nx).1.length + 1) cap) v'' r'' (some g) := by
  obtain ⟨le, size, box, mod, mk, fresh, lits, low⟩ := R
  obtain ⟨_, v'', r'', m1, f1, md1⟩ := hp
  have hs1 := md1.size
  have hs2 := hg.size
  simp only [World.size_alloc] at hs1 hs2
  have hrow : lv.ownBlock = q := lits.row
  have hqlt : ∀ k, q = some k → k < wr.heap.size := fun k hk => lits.row_lt hk
  have hr'q : ∀ k, q = some k → r' ≠ some k := fun k hk hr => by
    rcases (mk.row k hr).1 with h | h
    · have := hG k h; have := low k hk; omega
    · exact h.2.2 hk
  -- the literals' row is still there
  have lits2 : Own (w2.alloc b2) (fun _ => False) ti 1 lv q (dints (litsF (l.take j) nx).1) :=
    ((lits.alloc b1).kept md1 (fun _ h => h.elim) (fun k hk => fun h => by
      have := low k hk
      rcases h with h | h
      · omega
      · exact hr'q k hk h)).alloc b2
  obtain ⟨o1, md2, at2⟩ := lits2.int_appended (ys := [(litF l[j] (litsF (l.take j) nx).2.2).1]) (fun x hx => by simp at hx; subst hx; exact hy) (by simpa using ho) hg (by rcases hat with h | h; exact .inl h.symm; exact .inr (by simp [Value.ownBlock, h]))
  have hgq : q = some g ∨ g = w2.heap.size + 1 := by rw [← hrow]; exact hat
  have md2' : Mod (fun k => q = some k) w2 wz := ((Mod.refl _ w2).alloc b2).trans md2 (fun _ _ h => h)
  have M1 : Mod (fun k => k = mb ∨ r' = some k ∨ q = some k) wr w2 := (((Mod.refl (fun k => k = mb ∨ r' = some k) wr).alloc b1).trans md1 (fun _ _ h => h)).mono (fun k h => by rcases h with h | h; exact .inl h; exact .inr (.inl h))
  have M2 : Mod (fun k => k = mb ∨ r' = some k ∨ q = some k) wr wz := M1.trans md2' (fun _ _ h => .inr (.inr h))
  have hmd : Mod (fun k => k = mb ∨ r = some k) w wz := by
    refine mod.trans M2 (fun i hi h => ?_)
    rcases h with h | h | h
    · exact .inl h
    · rcases fresh with f | ⟨k, f, hk⟩
      · exact .inr (f ▸ h)
      · rw [f] at h; simp at h; omega
    · have := low i h; omega
  have hbox : wz.heap[w.heap.size]? = some bx := by
    rw [M2.block _ size (fun h => ?_)]; exact box
    rcases h with h | h | h
    · omega
    · rcases (mk.row _ h).1 with h | h
      · have := hG _ h; omega
      · omega
    · have := low _ h; omega
  have htake : l.take (j + 1) = l.take j ++ [l[j]] := List.take_succ_eq_append_getElem hj
  have hm1 : ∀ k, ((G k ∨ (w.heap.size < k ∧ k < wr.heap.size ∧ q ≠ some k)) ∨ ((wr.alloc b1).heap.size ≤ k ∧ k < w2.heap.size)) → q ≠ some k := by
    intro k hk hq
    have h1 := low k hq
    have h2 := hqlt k hq
    rcases hk with (h | h) | h
    · have := hG k h; omega
    · exact h.2.2 hq
    · simp at h; omega
  have m2 := m1.kept md2' (fun h => by have := low mb h; omega) (fun k hk => hm1 k hk)
  refine ⟨v'', r'', by omega, by omega, hbox, hmd, ?_, ?_, ?_, ?_⟩
  · rw [htake, litsF_snoc, ← List.append_assoc]
    refine m2.mono (fun k hk => ?_) (fun k hk => ?_)
    · have h1 := hm1 k hk
      have h2 := m1.inn k hk
      rcases hk with (h | h) | h
      · exact .inl h
      · refine .inr ⟨h.1, by omega, ?_⟩
        rcases hgq with e | e
        · rw [← e]; exact h1
        · simp; omega
      · simp at h
        refine .inr ⟨by omega, by omega, ?_⟩
        rcases hgq with e | e
        · rw [← e]; exact h1
        · simp; omega
    · rcases hk with h | h
      · have := hG k h; omega
      · exact h.2.1
  · rcases f1 with f | ⟨k, f, hk⟩
    · rw [f]; exact fresh
    · exact .inr ⟨k, f, by simp at hk; omega⟩
  · rw [htake, litsF_snoc]; exact o1
  · intro k hk
    simp at hk; subst hk
    rcases hgq with e | e
    · exact low _ e
    · omega

/-- Behind the loop: the node's own constraints have been put. -/
theorem LitRel.fin {w wr W w3 w4 : World} {G : Nat → Prop} {mb n4 : Nat} {tm tl ti : TypeId} {ex : List Value} {ls lins new : List Lin} {r r' q own : Option Nat} {bx : Obj} {l : List Tr} {nx nx' : Int} {j : Nat} {lv v' u x : Value} (hmb : mb < w.heap.size)
    (R : LitRel w wr G mb tm tl ti ex ls r bx l nx j lv v' r' q) (hM : Mod (fun k => k = mb) wr W) (hb : Below W.heap.size W w3)
    (hp : MkAt w4 (fun k => (G k ∨ (w.heap.size < k ∧ k < wr.heap.size ∧ q ≠ some k)) ∨ (W.heap.size ≤ k ∧ k < w3.heap.size) ∨ (k = w3.heap.size ∧ k < n4)) mb tm tl ex u nx' ((ls ++ lins) ++ new) own) (hf : own = r' ∨ own = some w3.heap.size) (hm : Mod (fun k => k = mb ∨ r' = some k) w3 w4) :
    LitPost w G mb tm tl ex ls r x (lins ++ new) nx' (.returned x) w4 := by
  obtain ⟨le, size, box, mod, mk, fresh, lits, low⟩ := R
  have s1 := hM.size
  have s2 := hb.size
  have s3 := hm.size
  rw [List.append_assoc] at hp
  refine ⟨rfl, u, own, hp.mono (fun k hk => ?_) (fun k hk => ?_), ?_, ?_⟩
  · have hlt := hp.inn k hk
    rcases hk with (h | h) | h | h
    · exact .inl h
    · exact .inr ⟨by omega, hlt⟩
    · exact .inr ⟨by omega, hlt⟩
    · exact .inr ⟨by omega, hlt⟩
  · rcases hk with h | h
    · exact hp.inn k (.inl (.inl h))
    · exact h.2
  · rcases hf with f | f
    · rw [f]; exact fresh
    · exact .inr ⟨_, f, by omega⟩
  · refine ((mod.trans hM (fun i _ h => .inl h)).trans (Mod.of_below (S := fun _ => False) hb) (fun _ _ h => h.elim)).trans hm (fun i hi h => ?_)
    rcases h with h | h
    · exact .inl h
    · rcases fresh with f | ⟨k, f, hk⟩
      · exact .inr (f ▸ h)
      · rw [f] at h; simp at h; omega

end Go.Chalk
