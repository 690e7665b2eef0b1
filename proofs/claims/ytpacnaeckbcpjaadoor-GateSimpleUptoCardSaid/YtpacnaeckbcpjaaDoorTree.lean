/- The program's trees as Lean data. -/
import Derived.Test.YtpacnaeckbcpjaaDoorRead
namespace Go.Chalk
open Go.RowKit

inductive Tr where
  | mk (kind v k : Int) (l : List Tr)

def Tr.kind : Tr → Int | .mk a _ _ _ => a
def Tr.v : Tr → Int | .mk _ a _ _ => a
def Tr.k : Tr → Int | .mk _ _ a _ => a
def Tr.l : Tr → List Tr | .mk _ _ _ a => a

mutual
def Tr.toD : Tr → D
  | .mk kind v k l => .st [.int .i64 kind, .int .i64 v, .int .i64 k, .sl (Tr.toDs l)]
def Tr.toDs : List Tr → List D
  | [] => []
  | t :: r => t.toD :: Tr.toDs r
end
theorem Tr.toDs_eq : ∀ l : List Tr, Tr.toDs l = l.map Tr.toD
  | [] => rfl
  | t :: r => by rw [Tr.toDs, Tr.toDs_eq r]; rfl
theorem Tr.width (t : Tr) : t.toD.width = 4 := by cases t; simp [Tr.toD, D.width, widths]

mutual
/-- The number of nodes. -/
def Tr.size : Tr → Nat
  | .mk _ _ _ l => 1 + sizes l
def sizes : List Tr → Nat
  | [] => 0
  | t :: r => t.size + sizes r
end

theorem sizes_take_succ : ∀ (l : List Tr) (i : Nat) (h : i < l.length), sizes (l.take (i + 1)) = sizes (l.take i) + (l[i]).size
  | t :: r, 0, _ => by simp [sizes]
  | t :: r, i + 1, h => by
    simp only [List.take_succ_cons, sizes, List.getElem_cons_succ]
    rw [sizes_take_succ r i (by simpa using h)]; omega
theorem sizes_take_le : ∀ (l : List Tr) (i : Nat), sizes (l.take i) ≤ sizes l
  | [], i => by simp [sizes]
  | t :: r, 0 => by simp [sizes]
  | t :: r, i + 1 => by
    simp only [List.take_succ_cons, sizes]
    have := sizes_take_le r i; omega
theorem length_le_sizes : ∀ (l : List Tr), l.length ≤ sizes l
  | [] => by simp
  | .mk _ _ _ l :: r => by
    have := length_le_sizes r
    simp only [sizes, Tr.size, List.length_cons]; omega
theorem size_pos : ∀ t : Tr, 0 < t.size | .mk _ _ _ _ => by simp only [Tr.size]; omega
theorem size_le_sizes (l : List Tr) (i : Nat) (h : i < l.length) : (l[i]).size ≤ sizes l := by
  have h1 := sizes_take_succ l i h
  have h2 := sizes_take_le l (i + 1)
  omega

mutual
theorem Tr.bulk_size : ∀ t : Tr, t.size ≤ t.toD.bulk
  | .mk _ _ _ l => by rw [Tr.size, Tr.toD, D.bulk]; simp only [bulks, D.bulk]; have := Tr.bulks_sizes l; omega
theorem Tr.bulks_sizes : ∀ l : List Tr, sizes l ≤ bulks (Tr.toDs l)
  | [] => by simp [sizes]
  | t :: r => by rw [sizes, Tr.toDs, bulks]; have := Tr.bulk_size t; have := Tr.bulks_sizes r; omega
end

/-- An int of 64 bits. -/
def I64 (n : Int) : Prop := -9223372036854775808 ≤ n ∧ n ≤ 9223372036854775807

/-- The cells of a tree. -/
theorem Tr.open {w : World} {F : Nat → Prop} {kind v k : Int} {l : List Tr} {cs : List Value} (h : DAt w F (Tr.mk kind v k l).toD cs) :
    ∃ a b o cap, cs = [.int .i64 kind, .int .i64 v, .int .i64 k, .slice a l.length cap] ∧ SlAt F a b o l.length ∧ I64 kind ∧ I64 v ∧ I64 k ∧ l.length ≤ cap ∧ cap ≤ maxLen ∧
      ∀ (i : Nat) (h : i < l.length), ∃ c0 c1 c2 c3, w.cell? ⟨b, o + i * 4, none⟩ = some c0 ∧ w.cell? ⟨b, o + i * 4 + 1, none⟩ = some c1 ∧ w.cell? ⟨b, o + i * 4 + 2, none⟩ = some c2 ∧ w.cell? ⟨b, o + i * 4 + 3, none⟩ = some c3 ∧
        DAt w F (l[i]).toD [c0, c1, c2, c3] := by
  rw [Tr.toD, DAt] at h
  simp only [DsAt, DAt] at h
  obtain ⟨_, _, rfl, ⟨rfl, h1⟩, _, _, rfl, ⟨rfl, h2⟩, _, _, rfl, ⟨rfl, h3⟩, _, _, rfl, ⟨a, b, o, cap, rfl, h4, h5, h6, h7⟩, rfl⟩ := h
  have hl : (Tr.toDs l).length = l.length := by rw [Tr.toDs_eq]; simp
  rw [hl] at h4 h5
  refine ⟨a, b, o, cap, by rw [hl]; rfl, h4, wf_i64 h1, wf_i64 h2, wf_i64 h3, h5, h6, fun i hi => ?_⟩
  obtain ⟨cs, g1, g2⟩ := h7.get (sz := 4) (fun x hx => by rw [Tr.toDs_eq] at hx; obtain ⟨t, _, rfl⟩ := List.mem_map.1 hx; exact t.width) i (by omega)
  have e : (Tr.toDs l)[i]'(by omega) = (l[i]).toD := by simp [Tr.toDs_eq]
  rw [e] at g1
  have hw := DAt.length _ _ g1
  rw [Tr.width] at hw
  match cs, hw with
  | [c0, c1, c2, c3], _ => exact ⟨c0, c1, c2, c3, g2 0 (by simp), g2 1 (by simp), g2 2 (by simp), g2 3 (by simp), g1⟩

/-- The value is a tree, whose memory lies in F. -/
def TreeV (w : World) (F : Nat → Prop) (t : Tr) (x : Value) : Prop := ∃ c0 c1 c2 c3, x = .agg #[c0, c1, c2, c3] ∧ DAt w F t.toD [c0, c1, c2, c3]
theorem TreeV.agree {F : Nat → Prop} {w w' : World} {t : Tr} {x : Value} (h : TreeV w F t x) (ha : Agree F w w') : TreeV w' F t x := by
  obtain ⟨c0, c1, c2, c3, rfl, h⟩ := h; exact ⟨c0, c1, c2, c3, rfl, DAt.agree ha _ _ h⟩
theorem TreeV.mono {F G : Nat → Prop} {w : World} {t : Tr} {x : Value} (h : TreeV w F t x) (hFG : ∀ k, F k → G k) : TreeV w G t x := by
  obtain ⟨c0, c1, c2, c3, rfl, h⟩ := h; exact ⟨c0, c1, c2, c3, rfl, DAt.mono hFG _ _ h⟩
/-- In a later world. -/
theorem TreeV.later {w w' : World} {t : Tr} {x : Value} {B : Nat} (h : TreeV w (· < B) t x) (hb : Below B w w') (hB : B ≤ w'.heap.size) : TreeV w' (· < w'.heap.size) t x :=
  (h.agree (agree_of_below hb)).mono (fun _ hk => Nat.lt_of_lt_of_le hk hB)
theorem TreeV.shape {w : World} {F : Nat → Prop} {t : Tr} {c0 c1 c2 c3 : Value} (h : DAt w F t.toD [c0, c1, c2, c3]) : ∃ k0 k1 k2 a n cap, c0 = .int .i64 k0 ∧ c1 = .int .i64 k1 ∧ c2 = .int .i64 k2 ∧ c3 = .slice a n cap := by
  obtain ⟨kind, v, k, l⟩ := t
  obtain ⟨a, b, o, cap, h0, _⟩ := Tr.open h
  simp only [List.cons.injEq, and_true] at h0
  exact ⟨_, _, _, _, _, _, h0⟩
/-- The trees l lie in memory, one behind the other. -/
def TreesIn (w : World) (F : Nat → Prop) (l : List Tr) (b o : Nat) : Prop :=
  ∀ (i : Nat) (h : i < l.length), ∃ k0 k1 k2 a n cap, w.cell? ⟨b, o + i * 4, none⟩ = some (.int .i64 k0) ∧ w.cell? ⟨b, o + i * 4 + 1, none⟩ = some (.int .i64 k1) ∧ w.cell? ⟨b, o + i * 4 + 2, none⟩ = some (.int .i64 k2) ∧ w.cell? ⟨b, o + i * 4 + 3, none⟩ = some (.slice a n cap) ∧
        TreeV w F l[i] (.agg #[.int .i64 k0, .int .i64 k1, .int .i64 k2, .slice a n cap])
theorem TreeV.open {w : World} {F : Nat → Prop} {kind v k : Int} {l : List Tr} {x : Value} (h : TreeV w F (.mk kind v k l) x) :
    ∃ a b o cap, x = .agg #[.int .i64 kind, .int .i64 v, .int .i64 k, .slice a l.length cap] ∧ SlAt F a b o l.length ∧ I64 kind ∧ I64 v ∧ I64 k ∧ l.length ≤ cap ∧ cap ≤ maxLen ∧ TreesIn w F l b o := by
  obtain ⟨c0, c1, c2, c3, rfl, h⟩ := h
  obtain ⟨a, b, o, cap, h0, h1, h2, h3, h4, h5, h6, h7⟩ := Tr.open h
  simp only [List.cons.injEq, and_true] at h0
  obtain ⟨rfl, rfl, rfl, rfl⟩ := h0
  refine ⟨a, b, o, cap, rfl, h1, h2, h3, h4, h5, h6, fun i hi => ?_⟩
  obtain ⟨e0, e1, e2, e3, g0, g1, g2, g3, g4⟩ := h7 i hi
  obtain ⟨k0, k1, k2, a', n', cap', rfl, rfl, rfl, rfl⟩ := TreeV.shape g4
  exact ⟨k0, k1, k2, a', n', cap', g0, g1, g2, g3, _, _, _, _, rfl, g4⟩
/-- The i-th, in a later world. -/
theorem TreesIn.at {w w' : World} {l : List Tr} {b o B : Nat} (h : TreesIn w (· < B) l b o) (hb : Below B w w') (hbl : b < B) (i : Nat) (hi : i < l.length) :
    ∃ k0 k1 k2 a n cap, w'.cell? ⟨b, o + i * 4, none⟩ = some (.int .i64 k0) ∧ w'.cell? ⟨b, o + i * 4 + 1, none⟩ = some (.int .i64 k1) ∧ w'.cell? ⟨b, o + i * 4 + 2, none⟩ = some (.int .i64 k2) ∧ w'.cell? ⟨b, o + i * 4 + 3, none⟩ = some (.slice a n cap) ∧
        TreeV w (· < B) l[i] (.agg #[.int .i64 k0, .int .i64 k1, .int .i64 k2, .slice a n cap]) := by
  obtain ⟨k0, k1, k2, a', n', cap', g0, g1, g2, g3, g4⟩ := h i hi
  exact ⟨k0, k1, k2, a', n', cap', (hb.cell (p := ⟨b, o + i * 4, none⟩) hbl).trans g0, (hb.cell (p := ⟨b, o + i * 4 + 1, none⟩) hbl).trans g1, (hb.cell (p := ⟨b, o + i * 4 + 2, none⟩) hbl).trans g2, (hb.cell (p := ⟨b, o + i * 4 + 3, none⟩) hbl).trans g3, g4⟩
theorem ret_bool {a b : Bool} (h : a = b) : Ending.returned (.bool a) = .returned (.bool b) := by rw [h]
theorem ret_int {k : IntKind} {a b : Int} (h : a = b) : Ending.returned (.int k a) = .returned (.int k b) := by rw [h]

/-- A node's own form. -/
def nodeOk (t : Tr) (n : Int) : Bool :=
  match t with
  | .mk kind v k l =>
    if kind = 1 then decide ((v = 0 ∨ v = 1) ∧ k = 0 ∧ l.length = 0)
    else if kind = 2 then decide (1 ≤ v ∧ v ≤ n ∧ k = 0 ∧ l.length = 0)
    else if kind = 3 then decide (v = 0 ∧ k = 0 ∧ l.length = 1)
    else if kind = 4 ∨ kind = 5 then decide (v = 0 ∧ k = 0)
    else if kind = 6 then decide (v = 0 ∧ 0 ≤ k ∧ k ≤ 1099511627776)
    else false
theorem nodeOk_true {kind v k n : Int} {l : List Tr} (h : nodeOk (.mk kind v k l) n = true) :
    (kind = 1 ∧ v = 0 ∧ k = 0 ∧ ((l.length : Int) != 0) = false) ∨ (kind = 1 ∧ v = 1 ∧ k = 0 ∧ ((l.length : Int) != 0) = false) ∨ (kind = 2 ∧ 1 ≤ v ∧ v ≤ n ∧ k = 0 ∧ ((l.length : Int) != 0) = false) ∨ (kind = 3 ∧ v = 0 ∧ k = 0 ∧ ((l.length : Int) != 1) = false) ∨ (kind = 4 ∧ v = 0 ∧ k = 0) ∨ (kind = 5 ∧ v = 0 ∧ k = 0) ∨ (kind = 6 ∧ v = 0 ∧ 0 ≤ k ∧ k ≤ 1099511627776) := by
  unfold nodeOk at h
  simp only at h
  split at h
  · simp at h; rcases h with ⟨h | h, h'⟩ <;> simp_all
  split at h
  · simp at h; simp_all
  split at h
  · simp at h; simp_all
  split at h
  · rename_i h4; simp at h; rcases h4 with h4 | h4 <;> simp_all
  split at h
  · simp at h; simp_all
  · cases h
theorem nodeOk_false {kind v k n : Int} {l : List Tr} (h : nodeOk (.mk kind v k l) n = false) :
    (kind = 1 ∧ ¬ ((v = 0 ∨ v = 1) ∧ k = 0 ∧ l.length = 0)) ∨ (kind = 2 ∧ ¬ (1 ≤ v ∧ v ≤ n ∧ k = 0 ∧ l.length = 0)) ∨ (kind = 3 ∧ ¬ (v = 0 ∧ k = 0 ∧ l.length = 1)) ∨ (kind = 4 ∧ ¬ (v = 0 ∧ k = 0)) ∨ (kind = 5 ∧ ¬ (v = 0 ∧ k = 0)) ∨ (kind = 6 ∧ ¬ (v = 0 ∧ 0 ≤ k ∧ k ≤ 1099511627776)) ∨
    ((kind == 1) = false ∧ (kind == 2) = false ∧ (kind == 3) = false ∧ (kind == 4) = false ∧ (kind == 5) = false ∧ (kind == 6) = false) := by
  unfold nodeOk at h
  simp only at h
  by_cases h1 : kind = 1
  · rw [if_pos h1] at h; exact .inl ⟨h1, of_decide_eq_false h⟩
  rw [if_neg h1] at h
  by_cases h2 : kind = 2
  · rw [if_pos h2] at h; exact .inr (.inl ⟨h2, of_decide_eq_false h⟩)
  rw [if_neg h2] at h
  by_cases h3 : kind = 3
  · rw [if_pos h3] at h; exact .inr (.inr (.inl ⟨h3, of_decide_eq_false h⟩))
  rw [if_neg h3] at h
  by_cases h4 : kind = 4
  · rw [if_pos (.inl h4)] at h; exact .inr (.inr (.inr (.inl ⟨h4, of_decide_eq_false h⟩)))
  by_cases h5 : kind = 5
  · rw [if_pos (.inr h5)] at h; exact .inr (.inr (.inr (.inr (.inl ⟨h5, of_decide_eq_false h⟩))))
  rw [if_neg (by simp [h4, h5])] at h
  by_cases h6 : kind = 6
  · rw [if_pos h6] at h; exact .inr (.inr (.inr (.inr (.inr (.inl ⟨h6, of_decide_eq_false h⟩)))))
  simp [h1, h2, h3, h4, h5, h6]
mutual
def mayB : Tr → Int → Bool
  | .mk kind v k l, n => nodeOk (.mk kind v k l) n && mayAll l n
def mayAll : List Tr → Int → Bool
  | [], _ => true
  | t :: r, n => mayB t n && mayAll r n
end
mutual
/-- A node of more than 4095 parts. -/
def wideB : Tr → Bool
  | .mk _ _ _ l => decide (4095 < l.length) || wideAny l
def wideAny : List Tr → Bool
  | [] => false
  | t :: r => wideB t || wideAny r
end
theorem mayAll_take_succ (l : List Tr) (n : Int) (j : Nat) (h : j < l.length) : mayAll (l.take (j + 1)) n = (mayAll (l.take j) n && mayB l[j] n) := by
  have gen : ∀ (l : List Tr) (j : Nat) (h : j < l.length), mayAll (l.take (j + 1)) n = (mayAll (l.take j) n && mayB l[j] n) := by
    intro l
    induction l with
    | nil => intro j h; simp at h
    | cons t r ih =>
      intro j h
      cases j with
      | zero => simp [mayAll]
      | succ j => simp only [List.take_succ_cons, mayAll, List.getElem_cons_succ]; rw [ih j (by simpa using h), Bool.and_assoc]
  exact gen l j h
theorem mayAll_false (l : List Tr) (n : Int) (j : Nat) (h : j < l.length) (hf : mayB l[j] n = false) : mayAll l n = false := by
  have gen : ∀ (l : List Tr) (j : Nat) (h : j < l.length), mayB l[j] n = false → mayAll l n = false := by
    intro l
    induction l with
    | nil => intro j h; simp at h
    | cons t r ih =>
      intro j h hf
      cases j with
      | zero => simp at hf; simp [mayAll, hf]
      | succ j => rw [mayAll, ih j (by simpa using h) (by simpa using hf), Bool.and_false]
  exact gen l j h hf
theorem wideAny_take_succ : ∀ (l : List Tr) (j : Nat) (h : j < l.length), wideAny (l.take (j + 1)) = (wideAny (l.take j) || wideB l[j])
  | t :: r, 0, _ => by simp [wideAny]
  | t :: r, j + 1, h => by simp only [List.take_succ_cons, wideAny, List.getElem_cons_succ]; rw [wideAny_take_succ r j (by simpa using h), Bool.or_assoc]
theorem wideAny_true : ∀ (l : List Tr) (j : Nat) (h : j < l.length), wideB l[j] = true → wideAny l = true
  | t :: r, 0, _, hf => by simp at hf; simp [wideAny, hf]
  | t :: r, j + 1, h, hf => by rw [wideAny, wideAny_true r j (by simpa using h) (by simpa using hf), Bool.or_true]
theorem mayAll_eq : ∀ (l : List Tr) (n : Int), mayAll l n = l.all (mayB · n)
  | [], _ => rfl
  | t :: r, n => by rw [mayAll, mayAll_eq r n]; rfl
theorem wideAny_eq : ∀ (l : List Tr), wideAny l = l.any wideB
  | [] => rfl
  | t :: r => by rw [wideAny, wideAny_eq r]; rfl

/-- What Check answers. -/
def checkE (t : Tr) (n : Int) : Int := if n < 0 ∨ 65536 < n ∨ mayB t n = false then 1 else if 65536 < t.size then 2 else 0

/-- A slice of trees. -/
theorem Tr.open_slice {w : World} {F : Nat → Prop} {l : List Tr} {cs : List Value} (h : DAt w F (.sl (l.map Tr.toD)) cs) :
    ∃ a b o cap, cs = [.slice a l.length cap] ∧ SlAt F a b o l.length ∧ l.length ≤ cap ∧ cap ≤ maxLen ∧ TreesIn w F l b o := by
  have : DAt w F (Tr.mk 0 0 0 l).toD ([.int .i64 0] ++ ([.int .i64 0] ++ ([.int .i64 0] ++ (cs ++ [])))) := by
    rw [Tr.toD, DAt]
    simp only [DsAt, Tr.toDs_eq]
    exact ⟨_, _, rfl, by rw [DAt]; exact ⟨rfl, rfl⟩, _, _, rfl, by rw [DAt]; exact ⟨rfl, rfl⟩, _, _, rfl, by rw [DAt]; exact ⟨rfl, rfl⟩, _, _, rfl, h, rfl⟩
  have hx : ∃ c, cs = [c] := by
    have := DAt.length _ _ h
    simp [D.width] at this
    exact List.length_eq_one_iff.1 this
  obtain ⟨c, rfl⟩ := hx
  obtain ⟨a, b, o, cap, h1, h2, _, _, _, h3, h4, h5⟩ := TreeV.open (w := w) (F := F) (x := .agg #[.int .i64 0, .int .i64 0, .int .i64 0, c]) ⟨_, _, _, _, rfl, by simpa using this⟩
  simp at h1
  subst h1
  exact ⟨a, b, o, cap, rfl, h2, h3, h4, h5⟩

theorem Tr.of_fits {P : Program} {tT tS ti : TypeId} {fs : Array Field} (hT : P.underlying tT = some (.struct fs)) (hf : fs.toList.map (·.type) = [ti, ti, ti, tS]) (hS : P.underlying tS = some (.slice tT)) (hi : P.underlying ti = some (.int .i64)) :
    ∀ (n : Nat) (x : D), Fits P n tT x → ∃ t : Tr, x = t.toD := by
  intro n
  induction n using Nat.strongRecOn with
  | _ n ih =>
    intro x h
    obtain ⟨m, xs, rfl, rfl, hx⟩ := h.struct hT hf
    match xs, hx with
    | [x0, x1, x2, x3], ⟨h0, h1, h2, h3, _⟩ =>
      obtain ⟨k0, rfl, _⟩ := h0.int hi
      obtain ⟨k1, rfl, _⟩ := h1.int hi
      obtain ⟨k2, rfl, _⟩ := h2.int hi
      obtain ⟨l, rfl⟩ := h3.slice_of hS (f := Tr.toD) (fun j y hj hy => ih j (by omega) y hy)
      exact ⟨.mk k0 k1 k2 l, by rw [Tr.toD, Tr.toDs_eq]⟩

end Go.Chalk
