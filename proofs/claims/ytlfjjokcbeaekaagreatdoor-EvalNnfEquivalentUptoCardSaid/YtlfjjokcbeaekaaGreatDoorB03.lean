/- Joined texts: Data, Read. -/
import Derived.WalkKit
import Derived.WalkSpells
import Derived.WalkLawsBesides
import Derived.Lib.Hide
import Derived.ProofKit

/- Go's plain data (numbers, bools, texts, slices, structs) as one Lean type, and what it means that memory holds such a datum; from the model's own reading of an argument to it. No program is named here. -/
namespace Go.Chalk
open Go.RowKit

inductive D where
  | int (k : IntKind) (n : Int)
  | bool (b : Bool)
  | str (s : ByteArray)
  | sl (xs : List D)
  | st (xs : List D)

/-- The blocks of F hold in w' what they held in w. -/
def Agree (F : Nat → Prop) (w w' : World) : Prop := ∀ k, F k → w'.heap[k]? = w.heap[k]?
theorem Agree.refl (F : Nat → Prop) (w : World) : Agree F w w := fun _ _ => rfl
theorem Agree.trans {F : Nat → Prop} {a b c : World} (h : Agree F a b) (k : Agree F b c) : Agree F a c := fun i hi => (k i hi).trans (h i hi)
theorem Agree.mono {F G : Nat → Prop} {w w' : World} (h : Agree G w w') (hFG : ∀ k, F k → G k) : Agree F w w' := fun k hk => h k (hFG k hk)
theorem agree_of_below {B : Nat} {w w' : World} (h : Below B w w') : Agree (· < B) w w' := fun k hk => h.block k hk
theorem cell_agree {F : Nat → Prop} {w w' : World} (h : Agree F w w') {a : Addr} (ha : F a.block) : w'.cell? a = w.cell? a := World.cell?_of_block (w := w) (h a.block ha)

/-- The address of a slice of n elements: any where n = 0; else ⟨b, o⟩ in a block of F. -/
def SlAt (F : Nat → Prop) (a : Option Addr) (b o n : Nat) : Prop := 0 < n → a = some ⟨b, o, none⟩ ∧ F b
theorem SlAt.mono {F G : Nat → Prop} (hFG : ∀ k, F k → G k) {a : Option Addr} {b o n : Nat} (h : SlAt F a b o n) : SlAt G a b o n := fun hn => ⟨(h hn).1, hFG _ (h hn).2⟩

/-- From ⟨b, o⟩ on lie the cells cs. -/
def CellsAt (w : World) (b o : Nat) (cs : List Value) : Prop := ∀ j (h : j < cs.length), w.cell? ⟨b, o + j, none⟩ = some cs[j]
theorem CellsAt.agree {F : Nat → Prop} {w w' : World} (h : Agree F w w') {b o : Nat} {cs : List Value} (hb : F b) (hc : CellsAt w b o cs) : CellsAt w' b o cs :=
  fun j hj => (cell_agree h (a := ⟨b, o + j, none⟩) hb).trans (hc j hj)

mutual
/-- How many cells a datum takes. -/
def D.width : D → Nat
  | .st xs => widths xs
  | _ => 1
def widths : List D → Nat
  | [] => 0
  | x :: r => x.width + widths r
end

mutual
/-- The cells cs read as the datum; all further memory lies in blocks of F. -/
def DAt (w : World) (F : Nat → Prop) : D → List Value → Prop
  | .int k n, cs => cs = [.int k n] ∧ (Lit.int k n).wf = true
  | .bool b, cs => cs = [.bool b]
  | .str s, cs => cs = [.string s] ∧ s.size ≤ maxLen
  | .sl xs, cs => ∃ a b o cap, cs = [.slice a xs.length cap] ∧ SlAt F a b o xs.length ∧ xs.length ≤ cap ∧ cap ≤ maxLen ∧ RowAt w F xs b o
  | .st xs, cs => DsAt w F xs cs
/-- The cells cs read as the data, one behind the other. -/
def DsAt (w : World) (F : Nat → Prop) : List D → List Value → Prop
  | [], cs => cs = []
  | x :: r, cs => ∃ c1 c2, cs = c1 ++ c2 ∧ DAt w F x c1 ∧ DsAt w F r c2
/-- From ⟨b, o⟩ on lie the data, one behind the other. -/
def RowAt (w : World) (F : Nat → Prop) : List D → Nat → Nat → Prop
  | [], _, _ => True
  | x :: r, b, o => (∃ cs, DAt w F x cs ∧ CellsAt w b o cs) ∧ RowAt w F r b (o + x.width)
end

mutual
theorem DAt.length {w : World} {F : Nat → Prop} : ∀ (x : D) (cs : List Value), DAt w F x cs → cs.length = x.width
  | .int _ _, _, h => by rw [DAt] at h; simp [h.1, D.width]
  | .bool _, _, h => by rw [DAt] at h; simp [h, D.width]
  | .str _, _, h => by rw [DAt] at h; simp [h.1, D.width]
  | .sl _, _, h => by rw [DAt] at h; obtain ⟨_, _, _, _, rfl, _⟩ := h; simp [D.width]
  | .st xs, cs, h => by rw [DAt] at h; rw [D.width]; exact DsAt.length xs cs h
theorem DsAt.length {w : World} {F : Nat → Prop} : ∀ (xs : List D) (cs : List Value), DsAt w F xs cs → cs.length = widths xs
  | [], _, h => by rw [DsAt] at h; simp [h, widths]
  | x :: r, cs, h => by
    rw [DsAt] at h; obtain ⟨c1, c2, rfl, h1, h2⟩ := h
    rw [List.length_append, DAt.length x c1 h1, DsAt.length r c2 h2, widths]
end

mutual
theorem DAt.agree {F : Nat → Prop} {w w' : World} (h : Agree F w w') : ∀ (x : D) (cs : List Value), DAt w F x cs → DAt w' F x cs
  | .int _ _, _, hx => by rw [DAt] at hx ⊢; exact hx
  | .bool _, _, hx => by rw [DAt] at hx ⊢; exact hx
  | .str _, _, hx => by rw [DAt] at hx ⊢; exact hx
  | .sl xs, _, hx => by
    rw [DAt] at hx ⊢
    obtain ⟨a, b, o, cap, e, hs, h1, h2, hr⟩ := hx
    exact ⟨a, b, o, cap, e, hs, h1, h2, RowAt.agree h xs b o (fun hne => (hs (by cases xs <;> simp_all)).2) hr⟩
  | .st xs, cs, hx => by rw [DAt] at hx ⊢; exact DsAt.agree h xs cs hx
theorem DsAt.agree {F : Nat → Prop} {w w' : World} (h : Agree F w w') : ∀ (xs : List D) (cs : List Value), DsAt w F xs cs → DsAt w' F xs cs
  | [], _, hx => by rw [DsAt] at hx ⊢; exact hx
  | x :: r, cs, hx => by
    rw [DsAt] at hx ⊢; obtain ⟨c1, c2, e, h1, h2⟩ := hx
    exact ⟨c1, c2, e, DAt.agree h x c1 h1, DsAt.agree h r c2 h2⟩
theorem RowAt.agree {F : Nat → Prop} {w w' : World} (h : Agree F w w') : ∀ (xs : List D) (b o : Nat), (xs ≠ [] → F b) → RowAt w F xs b o → RowAt w' F xs b o
  | [], _, _, _, _ => by rw [RowAt]; trivial
  | x :: r, b, o, hb, hx => by
    rw [RowAt] at hx ⊢
    obtain ⟨⟨cs, h1, h2⟩, hr⟩ := hx
    exact ⟨⟨cs, DAt.agree h x cs h1, h2.agree h (hb (by simp))⟩, RowAt.agree h r b _ (fun _ => hb (by simp)) hr⟩
end

mutual
theorem DAt.mono {F G : Nat → Prop} (h : ∀ k, F k → G k) {w : World} : ∀ (x : D) (cs : List Value), DAt w F x cs → DAt w G x cs
  | .int _ _, _, hx => by rw [DAt] at hx ⊢; exact hx
  | .bool _, _, hx => by rw [DAt] at hx ⊢; exact hx
  | .str _, _, hx => by rw [DAt] at hx ⊢; exact hx
  | .sl xs, _, hx => by
    rw [DAt] at hx ⊢
    obtain ⟨a, b, o, cap, e, hs, h1, h2, hr⟩ := hx
    exact ⟨a, b, o, cap, e, hs.mono h, h1, h2, RowAt.mono h xs b o hr⟩
  | .st xs, cs, hx => by rw [DAt] at hx ⊢; exact DsAt.mono h xs cs hx
theorem DsAt.mono {F G : Nat → Prop} (h : ∀ k, F k → G k) {w : World} : ∀ (xs : List D) (cs : List Value), DsAt w F xs cs → DsAt w G xs cs
  | [], _, hx => by rw [DsAt] at hx ⊢; exact hx
  | x :: r, cs, hx => by
    rw [DsAt] at hx ⊢; obtain ⟨c1, c2, e, h1, h2⟩ := hx
    exact ⟨c1, c2, e, DAt.mono h x c1 h1, DsAt.mono h r c2 h2⟩
theorem RowAt.mono {F G : Nat → Prop} (h : ∀ k, F k → G k) {w : World} : ∀ (xs : List D) (b o : Nat), RowAt w F xs b o → RowAt w G xs b o
  | [], _, _, _ => by rw [RowAt]; trivial
  | x :: r, b, o, hx => by
    rw [RowAt] at hx ⊢
    obtain ⟨⟨cs, h1, h2⟩, hr⟩ := hx
    exact ⟨⟨cs, DAt.mono h x cs h1, h2⟩, RowAt.mono h r b _ hr⟩
end

/-- The i-th datum of a row of data of one width. -/
theorem RowAt.get {w : World} {F : Nat → Prop} {sz : Nat} : ∀ {xs : List D} {b o : Nat}, RowAt w F xs b o → (∀ x ∈ xs, x.width = sz) → ∀ (i : Nat) (h : i < xs.length), ∃ cs, DAt w F xs[i] cs ∧ CellsAt w b (o + i * sz) cs
  | x :: r, b, o, h, _, 0, _ => by rw [RowAt] at h; simpa using h.1
  | x :: r, b, o, h, hw, i + 1, hi => by
    rw [RowAt] at h
    obtain ⟨cs, h1, h2⟩ := RowAt.get h.2 (fun y hy => hw y (by simp [hy])) i (by simpa using hi)
    refine ⟨cs, by simpa using h1, ?_⟩
    rw [hw x (by simp)] at h2
    rwa [show o + (i + 1) * sz = o + sz + i * sz from by rw [Nat.add_mul]; omega]

/-- A row out of its elements. -/
theorem RowAt.mk {w : World} {F : Nat → Prop} : ∀ {xs : List D} {b o : Nat} {cs : List Value}, DsAt w F xs cs → CellsAt w b o cs → RowAt w F xs b o
  | [], _, _, _, _, _ => by rw [RowAt]; trivial
  | x :: r, b, o, cs, h, hc => by
    rw [DsAt] at h; obtain ⟨c1, c2, rfl, h1, h2⟩ := h
    rw [RowAt]
    refine ⟨⟨c1, h1, fun j hj => ?_⟩, RowAt.mk h2 (fun j hj => ?_)⟩
    · have := hc j (by simp; omega)
      rwa [List.getElem_append_left hj] at this
    · have := hc (c1.length + j) (by simp; omega)
      rw [List.getElem_append_right (by omega)] at this
      simpa [DAt.length x c1 h1, Nat.add_assoc] using this

theorem DsAt.append {w : World} {F : Nat → Prop} : ∀ {xs ys : List D} {cs ds : List Value}, DsAt w F xs cs → DsAt w F ys ds → DsAt w F (xs ++ ys) (cs ++ ds)
  | [], _, _, _, h, k => by rw [DsAt] at h; subst h; simpa using k
  | x :: r, ys, cs, ds, h, k => by
    rw [DsAt] at h; obtain ⟨c1, c2, rfl, h1, h2⟩ := h
    rw [List.cons_append, DsAt]
    exact ⟨c1, c2 ++ ds, by simp, h1, DsAt.append h2 k⟩

mutual
/-- How many values and letters a datum holds. -/
def D.bulk : D → Nat
  | .str s => s.size + 1
  | .sl xs => bulks xs + 1
  | .st xs => bulks xs + 1
  | _ => 1
def bulks : List D → Nat
  | [] => 0
  | x :: r => x.bulk + bulks r
end
theorem bulk_pos (x : D) : 1 ≤ x.bulk := by cases x <;> simp [D.bulk]
theorem bulk_le {x : D} : ∀ {l : List D}, x ∈ l → x.bulk ≤ bulks l
  | y :: r, h => by
    rw [bulks]
    cases List.mem_cons.1 h with
    | inl e => subst e; omega
    | inr e => have := bulk_le e; omega
theorem length_le_bulks : ∀ l : List D, l.length ≤ bulks l
  | [] => by simp [bulks]
  | x :: r => by have := length_le_bulks r; have := bulk_pos x; simp [bulks]; omega

/-- A slice out of a row. -/
theorem DAt.slice {w : World} {F : Nat → Prop} {xs : List D} {b o cap : Nat} {a : Option Addr} (hs : SlAt F a b o xs.length) (h1 : xs.length ≤ cap) (h2 : cap ≤ maxLen) (h : RowAt w F xs b o) : DAt w F (.sl xs) [.slice a xs.length cap] := by
  rw [DAt]; exact ⟨a, b, o, cap, rfl, hs, h1, h2, h⟩

/-- A block that was laid last lies there later. -/
theorem boxed {w w1 : World} {o : Obj} {B : Nat} (hb : Below B (w.alloc o) w1) (hB : w.heap.size < B) : w1.heap[w.heap.size]? = some o := by
  rw [hb.block _ hB]; show (w.heap.push o)[w.heap.size]? = some o; simp
theorem cell_of_heap {w : World} {b i : Nat} {cs : Array Value} {t : TypeId} {fz : Nat × Nat} (h : w.heap[b]? = some (.cells cs t fz)) {v : Value} (hv : cs[i]? = some v) : w.cell? ⟨b, i, none⟩ = some v := by
  simp [World.cell?, h, hv]
theorem boxed4 {w w1 : World} {c0 c1 c2 c3 : Value} {t : TypeId} {fz : Nat × Nat} {B : Nat} (hb : Below B (w.alloc (.cells #[c0, c1, c2, c3] t fz)) w1) (hB : w.heap.size < B) :
    w1.cell? ⟨w.heap.size, 0, none⟩ = some c0 ∧ w1.cell? ⟨w.heap.size, 1, none⟩ = some c1 ∧ w1.cell? ⟨w.heap.size, 2, none⟩ = some c2 ∧ w1.cell? ⟨w.heap.size, 3, none⟩ = some c3 :=
  have h := boxed hb hB
  ⟨cell_of_heap h rfl, cell_of_heap h rfl, cell_of_heap h rfl, cell_of_heap h rfl⟩
/-- One block laid ahead, then what keeps all that was there. -/
theorem Below.ahead {w w1 : World} {o : Obj} {B : Nat} (hb : Below B (w.alloc o) w1) (hB : w.heap.size ≤ B) : Below w.heap.size w w1 := ((Below.refl _ w).alloc (Nat.le_refl _) o).trans (hb.mono hB)

end Go.Chalk

/- From the model's own reading of an argument ('DataW.trod') to the data of Data.lean, for types made of numbers, bools, texts, slices and structs. -/
namespace Go.Chalk
open Go.RowKit

mutual
def D.of {H : Type} : DataW H → D
  | .lit (.int k n) => .int k n
  | .lit (.bool b) => .bool b
  | .lit (.string bs) => .str ⟨bs.toArray⟩
  | .lit _ => .bool false
  | .nil => .sl []
  | .slice es _ => .sl (D.ofAll es)
  | .agg ps => .st (D.ofAll ps)
  | _ => .bool false
def D.ofAll {H : Type} : List (DataW H) → List D
  | [] => []
  | d :: r => D.of d :: D.ofAll r
end

theorem D.ofAll_eq {H : Type} : ∀ l : List (DataW H), D.ofAll l = l.map D.of
  | [] => rfl
  | d :: r => by rw [D.ofAll, D.ofAll_eq r]; rfl

/-- The fields tile the cells. -/
def tiles (P : Program) : List Field → Nat → Nat → Bool
  | [], o, n => o == n
  | f :: r, o, n => f.offset == o && tiles P r (o + P.cellsOf f.type) n

/-- A type of T is plain, and made of types of T. -/
def plainType (P : Program) (T : List TypeId) (t : TypeId) : Bool :=
  match P.underlying t with
  | some .bool | some (.int _) | some .string => P.cellsOf t == 1
  | some (.slice e) => T.contains e && P.cellsOf t == 1 && decide (0 < P.cellsOf e)
  | some (.struct fs) => fs.toList.all (fun f => T.contains f.type) && tiles P fs.toList 0 (P.cellsOf t)
  | _ => false
def plainTypes (P : Program) (T : List TypeId) : Bool := T.all (plainType P T)

/-- The datum has the shape of the type. -/
def Fits (P : Program) : Nat → TypeId → D → Prop
  | 0, _, _ => False
  | n + 1, t, x =>
    match P.underlying t with
    | some .bool => ∃ b, x = .bool b
    | some (.int k) => ∃ m, x = .int k m ∧ (Lit.int k m).wf = true
    | some .string => ∃ s, x = .str s ∧ s.size ≤ maxLen
    | some (.slice e) => ∃ xs, x = .sl xs ∧ ∀ y ∈ xs, Fits P n e y
    | some (.struct fs) => ∃ xs, x = .st xs ∧ xs.length = fs.toList.length ∧ ∀ (i : Nat) (f : Field) (y : D), fs.toList[i]? = some f → xs[i]? = some y → Fits P n f.type y
    | _ => False

theorem mapM_some {α β : Type} {f : α → Option β} : ∀ {l : List α} {r : List β}, l.mapM f = some r → r.length = l.length ∧ ∀ (i : Nat) (a : α) (b : β), l[i]? = some a → r[i]? = some b → f a = some b
  | [], r, h => by simp at h; subst h; simp
  | x :: l, r, h => by
    simp only [List.mapM_cons, Option.bind_eq_bind, Option.bind_eq_some_iff] at h
    obtain ⟨y, hy, ys, hys, hr⟩ := h
    simp at hr; subst hr
    obtain ⟨h1, h2⟩ := mapM_some hys
    refine ⟨by simp [h1], fun i a b ha hb => ?_⟩
    cases i with
    | zero => simp at ha hb; subst ha hb; exact hy
    | succ i => exact h2 i a b (by simpa using ha) (by simpa using hb)

theorem Addr.add_cell {w : World} {a : Addr} {v : Value} {n : Nat} (h : w.cell? (a.add n) = some v) (hs : a.spot = none) : w.cell? ⟨a.block, a.off + n, none⟩ = some v := by
  unfold Addr.add at h
  by_cases hn : n = 0
  · subst hn; rw [if_pos rfl] at h; cases a; simp_all
  · rw [if_neg hn] at h; exact h

theorem spot_of_cell {w : World} {a : Addr} {v : Value} (h : w.cell? a = some v) : a.spot = none := by
  unfold World.cell? at h
  split at h
  · split at h
    · cases h
    · cases hs : a.spot <;> simp_all
  · cases h

theorem cells?_at {w : World} {a : Addr} {n : Nat} {cs : List Value} (h : w.cells? 0 a n = some cs) : cs.length = n ∧ (0 < n → a.block < w.heap.size) ∧ ∀ j (hj : j < cs.length), w.cell? (a.add j) = some cs[j] := by
  unfold World.cells? at h
  rw [if_pos (Nat.zero_le _)] at h
  obtain ⟨h1, h2⟩ := mapM_some h
  have hc : ∀ j (hj : j < cs.length), w.cell? (a.add j) = some cs[j] := fun j hj => h2 j j cs[j] (by rw [h1, List.length_range] at hj; simp [hj]) (by simp [hj])
  refine ⟨by simpa using h1, fun hn => ?_, hc⟩
  have h0 := hc 0 (by simp at h1; omega)
  unfold Addr.add at h0
  rw [if_pos rfl] at h0
  unfold World.cell? at h0
  split at h0
  · rename_i hb; exact (Array.getElem?_eq_some_iff.1 hb).1
  · cases h0

theorem add_add (a : Addr) (i j : Nat) (hs : a.spot = none) : (a.add i).add j = ⟨a.block, a.off + i + j, none⟩ := by
  cases a with | mk b o s => ?_
  simp at hs; subst hs
  unfold Addr.add
  by_cases hi : i = 0 <;> by_cases hj : j = 0 <;> simp [hi, hj]

theorem row_of {w : World} {F : Nat → Prop} {sz : Nat} {b : Nat} : ∀ (xs : List D) (o : Nat), (∀ (i : Nat) (x : D), xs[i]? = some x → x.width = sz ∧ ∃ cs, DAt w F x cs ∧ CellsAt w b (o + i * sz) cs) → RowAt w F xs b o
  | [], _, _ => by rw [RowAt]; trivial
  | x :: r, o, h => by
    rw [RowAt]
    obtain ⟨h0, h1⟩ := h 0 x (by simp)
    refine ⟨by simpa using h1, row_of (sz := sz) r _ (fun i y hy => ?_)⟩
    obtain ⟨k0, cs, k1, k2⟩ := h (i + 1) y (by simpa using hy)
    refine ⟨k0, cs, k1, ?_⟩
    rw [h0]
    rwa [show o + (i + 1) * sz = o + sz + i * sz from by rw [Nat.add_mul]; omega] at k2

theorem tiles_ds {P : Program} {w : World} {F : Nat → Prop} : ∀ (fs : List Field) (xs : List D) (o n : Nat) (cs : List Value), tiles P fs o n = true → cs.length = n → o ≤ n → xs.length = fs.length →
    (∀ (i : Nat) (f : Field) (x : D), fs[i]? = some f → xs[i]? = some x → DAt w F x ((cs.drop f.offset).take (P.cellsOf f.type)) ∧ ((cs.drop f.offset).take (P.cellsOf f.type)).length = P.cellsOf f.type) → DsAt w F xs (cs.drop o)
  | [], [], o, n, cs, ht, hl, _, _, _ => by
    simp [tiles] at ht; subst ht; rw [DsAt]; simp; omega
  | [], x :: r, _, _, _, _, _, _, h, _ => by simp at h
  | f :: fs, [], _, _, _, _, _, _, h, _ => by simp at h
  | f :: fs, x :: xs, o, n, cs, ht, hl, ho, hx, h => by
    simp [tiles] at ht
    obtain ⟨ho', ht⟩ := ht
    obtain ⟨h0, h1⟩ := h 0 f x (by simp) (by simp)
    rw [ho'] at h0 h1
    rw [DsAt]
    have hle : o + P.cellsOf f.type ≤ n := by
      rw [List.length_take, List.length_drop] at h1; omega
    refine ⟨_, _, (List.take_append_drop (P.cellsOf f.type) (cs.drop o)).symm, h0, ?_⟩
    rw [List.drop_drop]
    exact tiles_ds fs xs _ n cs ht hl hle (by simpa using hx) (fun i g y hg hy => h (i + 1) g y (by simpa using hg) (by simpa using hy))

theorem bytes_eq (s : ByteArray) : (⟨s.data.toList.toArray⟩ : ByteArray) = s := by cases s; simp

/-- WHAT IS READ LIES IN MEMORY, AND HAS ITS TYPE's SHAPE. -/
theorem trod_at {H : Type} {enc : TypeId × Value → H} {P : Program} {w : World} {spare : Nat → Bool} {held : Bool} {T : List TypeId} (hT : plainTypes P T = true) :
    ∀ (fuel : Nat) (t : TypeId) (cs : List Value) (d : DataW H) (p : List MemPlace), t ∈ T → DataW.trod enc P w 0 spare held fuel t cs = some (d, p) →
      DAt w (· < w.heap.size) (D.of d) cs ∧ Fits P fuel t (D.of d) ∧ cs.length = P.cellsOf t
  | 0, _, _, _, _, _, h => by simp [DataW.trod] at h
  | fuel + 1, t, cs, d, p, ht, h => by
    have hp : plainType P T t = true := List.all_eq_true.1 hT t ht
    unfold plainType at hp
    rw [DataW.trod.eq_def] at h
    rw [Fits]
    simp only at h
    cases hu : P.underlying t with
    | none => rw [hu] at hp; cases hp
    | some u =>
      rw [hu] at hp h
      cases u with
      | bool =>
        simp at hp
        split at h <;> try (simp_all; done)
        simp at h; obtain ⟨rfl, rfl⟩ := h
        exact ⟨by simp [D.of, DAt], ⟨_, by rw [D.of]⟩, by simp [hp]⟩
      | int k =>
        simp at hp
        split at h <;> try (simp_all; done)
        rename_i k' k'' n hk
        split at h <;> try (simp_all; done)
        rename_i hw
        simp at h; obtain ⟨rfl, rfl⟩ := h
        simp at hk; subst hk
        obtain ⟨rfl, hw⟩ := hw
        exact ⟨by rw [D.of, DAt]; exact ⟨rfl, hw⟩, ⟨_, by rw [D.of], hw⟩, by simp [hp]⟩
      | string =>
        simp at hp
        split at h <;> try (simp_all; done)
        split at h <;> try (simp_all; done)
        rename_i hw
        simp at h; obtain ⟨rfl, rfl⟩ := h
        exact ⟨by rw [D.of, DAt, bytes_eq]; exact ⟨rfl, hw⟩, ⟨_, by rw [D.of, bytes_eq], hw⟩, by simp [hp]⟩
      | slice e =>
        simp at hp
        split at h <;> try (simp_all; done)
        · simp at h; obtain ⟨rfl, rfl⟩ := h
          refine ⟨?_, ⟨[], by rw [D.of], by simp⟩, by simp [hp]⟩
          rw [D.of]
          exact DAt.slice (xs := []) (b := 0) (o := 0) (a := none) (fun h => by simp at h) (Nat.le_refl _) (Nat.zero_le _) (by rw [RowAt]; trivial)
        · rename_i e' a len cap hk
          simp at hk; subst hk
          split at h <;> try (simp_all; done)
          rename_i hc
          simp only [Option.bind_eq_some_iff, Option.map_eq_some_iff, Prod.mk.injEq] at h
          obtain ⟨elems, he, rest, _, rfl, rfl⟩ := h
          obtain ⟨hl, hi⟩ := mapM_some he
          have key : ∀ (i : Nat) (y : DataW H × List MemPlace), elems[i]? = some y → ∃ cs, w.cells? 0 (a.add (i * P.cellsOf e)) (P.cellsOf e) = some cs ∧ DAt w (· < w.heap.size) (D.of y.1) cs ∧ Fits P fuel e (D.of y.1) ∧ cs.length = P.cellsOf e := by
            intro i y hy
            have hil : i < len := by have := (List.getElem?_eq_some_iff.1 hy).1; simp at hl; omega
            have := hi i i y (by simp [hil]) hy
            simp only [Option.bind_eq_some_iff] at this
            obtain ⟨cs, h1, h2⟩ := this
            obtain ⟨g1, g2, g3⟩ := trod_at hT fuel e cs y.1 y.2 (by simpa using hp.1.1) (by rw [h2])
            exact ⟨cs, h1, g1, g2, g3⟩
          have hlen : (D.ofAll (elems.map (·.1))).length = len := by rw [D.ofAll_eq]; simp at hl; simp [hl]
          have hget : ∀ (i : Nat) (x : D), (D.ofAll (elems.map (·.1)))[i]? = some x → ∃ y, elems[i]? = some y ∧ x = D.of y.1 := by
            intro i x hx
            rw [D.ofAll_eq] at hx
            simp only [List.getElem?_map, Option.map_eq_some_iff] at hx
            obtain ⟨z, ⟨y, hy, rfl⟩, rfl⟩ := hx
            exact ⟨y, hy, rfl⟩
          refine ⟨?_, ⟨D.ofAll (elems.map (·.1)), by rw [D.of], ?_⟩, by simp [hp.1.2]⟩
          · rw [D.of]
            have hw1 : ∀ (i : Nat) (x : D), (D.ofAll (elems.map (·.1)))[i]? = some x → x.width = P.cellsOf e := by
              intro i x hx
              obtain ⟨y, hy, rfl⟩ := hget i x hx
              obtain ⟨cs, _, g1, _, g3⟩ := key i y hy
              rw [← DAt.length _ _ g1, g3]
            have hsp : 0 < len → a.spot = none ∧ a.block < w.heap.size := by
              intro h0
              obtain ⟨y, hy⟩ : ∃ y, elems[0]? = some y := by
                simp at hl; exact ⟨elems[0], by simp⟩
              obtain ⟨cs, g0, g1, _, g3⟩ := key 0 y hy
              obtain ⟨c1, c2, c3⟩ := cells?_at g0
              have c4 := c3 0 (by omega)
              simp [Addr.add] at c4 c2
              exact ⟨spot_of_cell c4, c2 hp.2⟩
            rw [show len = (D.ofAll (elems.map (·.1))).length from hlen.symm]
            refine DAt.slice (b := a.block) (o := a.off) (fun h0 => ?_) (by rw [hlen]; exact hc.2.1) hc.2.2 (row_of (sz := P.cellsOf e) _ _ (fun i x hx => ⟨hw1 i x hx, ?_⟩))
            · obtain ⟨s1, s2⟩ := hsp (by rw [hlen] at h0; exact h0)
              refine ⟨?_, s2⟩
              cases a; simp at s1; subst s1; rfl
            · obtain ⟨y, hy, rfl⟩ := hget i x hx
              obtain ⟨cs, g0, g1, _, g3⟩ := key i y hy
              obtain ⟨c1, c2, c3⟩ := cells?_at g0
              have hil : i < len := by have := (List.getElem?_eq_some_iff.1 hy).1; simp at hl; omega
              refine ⟨cs, g1, fun j hj => ?_⟩
              have := c3 j hj
              rwa [add_add _ _ _ (hsp (by omega)).1] at this
          · intro x hx
            obtain ⟨i, hi2⟩ := List.mem_iff_getElem?.1 hx
            obtain ⟨y, hy, rfl⟩ := hget i x hi2
            obtain ⟨cs, _, _, g2, _⟩ := key i y hy
            exact g2
      | struct fs =>
        simp at hp
        change (if cs.length = P.cellsOf t then (fs.toList.mapM fun f => DataW.trod enc P w 0 spare held fuel f.type ((cs.drop f.offset).take (P.cellsOf f.type))).map fun xs => (DataW.agg (xs.map (·.1)), xs.flatMap (·.2)) else none) = some (d, p) at h
        by_cases hc : cs.length = P.cellsOf t
        rotate_left
        · rw [if_neg hc] at h; cases h
        rw [if_pos hc] at h
        simp only [Option.map_eq_some_iff, Prod.mk.injEq] at h
        obtain ⟨ys, he, rfl, rfl⟩ := h
        obtain ⟨hl, hi⟩ := mapM_some he
        have hget : ∀ (i : Nat) (x : D), (D.ofAll (ys.map (·.1)))[i]? = some x → ∃ y, ys[i]? = some y ∧ x = D.of y.1 := by
          intro i x hx
          rw [D.ofAll_eq] at hx
          simp only [List.getElem?_map, Option.map_eq_some_iff] at hx
          obtain ⟨z, ⟨y, hy, rfl⟩, rfl⟩ := hx
          exact ⟨y, hy, rfl⟩
        have hlen : (D.ofAll (ys.map (·.1))).length = fs.toList.length := by rw [D.ofAll_eq]; simp [hl]
        have key : ∀ (i : Nat) (f : Field) (x : D), fs.toList[i]? = some f → (D.ofAll (ys.map (·.1)))[i]? = some x →
            DAt w (· < w.heap.size) x ((cs.drop f.offset).take (P.cellsOf f.type)) ∧ Fits P fuel f.type x ∧ ((cs.drop f.offset).take (P.cellsOf f.type)).length = P.cellsOf f.type := by
          intro i f x hf hx
          obtain ⟨y, hy, rfl⟩ := hget i x hx
          have h2 := hi i f y hf hy
          have hm : f ∈ fs.toList := List.mem_of_getElem? hf
          exact trod_at hT fuel f.type _ y.1 y.2 (by obtain ⟨k, hk, rfl⟩ := List.mem_iff_getElem.1 hm; simpa using hp.1 k (by simpa using hk)) (by rw [h2])
        refine ⟨?_, ⟨D.ofAll (ys.map (·.1)), by rw [D.of], hlen, fun i f x hf hx => (key i f x hf hx).2.1⟩, hc⟩
        rw [D.of, DAt]
        have := tiles_ds (P := P) (w := w) (F := (· < w.heap.size)) fs.toList (D.ofAll (ys.map (·.1))) 0 (P.cellsOf t) cs hp.2 hc (Nat.zero_le _) hlen (fun i f x hf hx => ⟨(key i f x hf hx).1, (key i f x hf hx).2.2⟩)
        simpa using this
      | _ => simp at hp

/-- The data have the types' shapes, one by one. -/
def FitsAll (P : Program) (n : Nat) : List TypeId → List D → Prop
  | [], [] => True
  | t :: ts, x :: xs => Fits P n t x ∧ FitsAll P n ts xs
  | _, _ => False

theorem fitsAll_of {P : Program} {n : Nat} : ∀ (fs : List Field) (xs : List D), xs.length = fs.length → (∀ (i : Nat) (f : Field) (y : D), fs[i]? = some f → xs[i]? = some y → Fits P n f.type y) → FitsAll P n (fs.map (·.type)) xs
  | [], [], _, _ => trivial
  | [], _ :: _, h, _ => by simp at h
  | _ :: _, [], h, _ => by simp at h
  | f :: fs, x :: xs, hl, h => ⟨h 0 f x rfl rfl, fitsAll_of fs xs (by simpa using hl) (fun i g y hg hy => h (i + 1) g y (by simpa using hg) (by simpa using hy))⟩

theorem Fits.struct {P : Program} {n : Nat} {t : TypeId} {x : D} {fs : Array Field} {ts : List TypeId} (hu : P.underlying t = some (.struct fs)) (hts : fs.toList.map (·.type) = ts) (h : Fits P n t x) :
    ∃ m xs, n = m + 1 ∧ x = .st xs ∧ FitsAll P m ts xs := by
  cases n with
  | zero => exact h.elim
  | succ n =>
    rw [Fits, hu] at h
    obtain ⟨xs, rfl, hl, hx⟩ := h
    exact ⟨n, xs, rfl, rfl, by rw [← hts]; exact fitsAll_of _ _ hl hx⟩
theorem Fits.slice {P : Program} {n : Nat} {t e : TypeId} {x : D} (hu : P.underlying t = some (.slice e)) (h : Fits P n t x) : ∃ m xs, n = m + 1 ∧ x = .sl xs ∧ ∀ y ∈ xs, Fits P m e y := by
  cases n with
  | zero => exact h.elim
  | succ n =>
    rw [Fits, hu] at h
    obtain ⟨xs, rfl, hx⟩ := h
    exact ⟨n, xs, rfl, rfl, hx⟩
theorem Fits.int {P : Program} {n : Nat} {t : TypeId} {x : D} {k : IntKind} (hu : P.underlying t = some (.int k)) (h : Fits P n t x) : ∃ m, x = .int k m ∧ (Lit.int k m).wf = true := by
  cases n with
  | zero => exact h.elim
  | succ n => rw [Fits, hu] at h; exact h
theorem Fits.bool {P : Program} {n : Nat} {t : TypeId} {x : D} (hu : P.underlying t = some .bool) (h : Fits P n t x) : ∃ b, x = .bool b := by
  cases n with
  | zero => exact h.elim
  | succ n => rw [Fits, hu] at h; exact h
theorem Fits.str {P : Program} {n : Nat} {t : TypeId} {x : D} (hu : P.underlying t = some .string) (h : Fits P n t x) : ∃ s, x = .str s ∧ s.size ≤ maxLen := by
  cases n with
  | zero => exact h.elim
  | succ n => rw [Fits, hu] at h; exact h

/-- A list of data that are each of a form is a list of that form. -/
theorem list_of {α : Type} {f : α → D} : ∀ {xs : List D}, (∀ y ∈ xs, ∃ a, y = f a) → ∃ l : List α, xs = l.map f
  | [], _ => ⟨[], rfl⟩
  | x :: r, h => by
    obtain ⟨a, rfl⟩ := h x (by simp)
    obtain ⟨l, rfl⟩ := list_of (xs := r) (f := f) (fun y hy => h y (by simp [hy]))
    exact ⟨a :: l, rfl⟩

theorem Fits.slice_of {α : Type} {f : α → D} {P : Program} {n : Nat} {t e : TypeId} {x : D} (hu : P.underlying t = some (.slice e)) (h : Fits P n t x) (he : ∀ m y, m < n → Fits P m e y → ∃ a, y = f a) : ∃ l : List α, x = .sl (l.map f) := by
  obtain ⟨m, xs, rfl, rfl, hx⟩ := h.slice hu
  obtain ⟨l, rfl⟩ := list_of (f := f) (fun y hy => he m y (by omega) (hx y hy))
  exact ⟨l, rfl⟩

theorem wf_i64 {n : Int} (h : (Lit.int .i64 n).wf = true) : -9223372036854775808 ≤ n ∧ n ≤ 9223372036854775807 := by
  have : IntKind.i64.min = -9223372036854775808 := by decide
  simpa [Lit.wf, this] using h

end Go.Chalk
