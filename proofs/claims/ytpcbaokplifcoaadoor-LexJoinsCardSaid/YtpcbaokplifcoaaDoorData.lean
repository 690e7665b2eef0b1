/- Go's plain data (numbers, bools, texts, slices, structs) as one Lean type, and what it means that memory holds such a datum; from the model's own reading of an argument to it. No program is named here. -/
import Derived.WalkKit
import Derived.WalkSpells
import Derived.WalkLawsBesides
import Derived.Lib.Hide
import Derived.ProofKit
namespace Go.Chalk
open Go.RowKit

inductive D where
  | int (k : IntKind) (n : Int)
  | bool (b : Bool)
  | str (s : ByteArray)
  | sl (xs : List D)
  | st (xs : List D)

/-- The blocks of F hold in w' what they held in w. -/
def Agree (F : Nat → Prop) (w w' : World) : Prop := ∀ k, F k → w'.heap[k]? = w.heap[k]?
theorem Agree.refl (F : Nat → Prop) (w : World) : Agree F w w := fun _ _ => rfl
theorem Agree.trans {F : Nat → Prop} {a b c : World} (h : Agree F a b) (k : Agree F b c) : Agree F a c := fun i hi => (k i hi).trans (h i hi)
theorem Agree.mono {F G : Nat → Prop} {w w' : World} (h : Agree G w w') (hFG : ∀ k, F k → G k) : Agree F w w' := fun k hk => h k (hFG k hk)
theorem agree_of_below {B : Nat} {w w' : World} (h : Below B w w') : Agree (· < B) w w' := fun k hk => h.block k hk
theorem cell_agree {F : Nat → Prop} {w w' : World} (h : Agree F w w') {a : Addr} (ha : F a.block) : w'.cell? a = w.cell? a := World.cell?_of_block (w := w) (h a.block ha)

/-- The address of a slice of n elements: any where n = 0; else ⟨b, o⟩ in a block of F. -/
def SlAt (F : Nat → Prop) (a : Option Addr) (b o n : Nat) : Prop := 0 < n → a = some ⟨b, o, none⟩ ∧ F b
theorem SlAt.mono {F G : Nat → Prop} (hFG : ∀ k, F k → G k) {a : Option Addr} {b o n : Nat} (h : SlAt F a b o n) : SlAt G a b o n := fun hn => ⟨(h hn).1, hFG _ (h hn).2⟩

/-- From ⟨b, o⟩ on lie the cells cs. -/
def CellsAt (w : World) (b o : Nat) (cs : List Value) : Prop := ∀ j (h : j < cs.length), w.cell? ⟨b, o + j, none⟩ = some cs[j]
theorem CellsAt.agree {F : Nat → Prop} {w w' : World} (h : Agree F w w') {b o : Nat} {cs : List Value} (hb : F b) (hc : CellsAt w b o cs) : CellsAt w' b o cs :=
  fun j hj => (cell_agree h (a := ⟨b, o + j, none⟩) hb).trans (hc j hj)

mutual
/-- How many cells a datum takes. -/
def D.width : D → Nat
  | .st xs => widths xs
  | _ => 1
def widths : List D → Nat
  | [] => 0
  | x :: r => x.width + widths r
end

mutual
/-- The cells cs read as the datum; all further memory lies in blocks of F. -/
def DAt (w : World) (F : Nat → Prop) : D → List Value → Prop
  | .int k n, cs => cs = [.int k n] ∧ (Lit.int k n).wf = true
  | .bool b, cs => cs = [.bool b]
  | .str s, cs => cs = [.string s] ∧ s.size ≤ maxLen
  | .sl xs, cs => ∃ a b o cap, cs = [.slice a xs.length cap] ∧ SlAt F a b o xs.length ∧ xs.length ≤ cap ∧ cap ≤ maxLen ∧ RowAt w F xs b o
  | .st xs, cs => DsAt w F xs cs
/-- The cells cs read as the data, one behind the other. -/
def DsAt (w : World) (F : Nat → Prop) : List D → List Value → Prop
  | [], cs => cs = []
  | x :: r, cs => ∃ c1 c2, cs = c1 ++ c2 ∧ DAt w F x c1 ∧ DsAt w F r c2
/-- From ⟨b, o⟩ on lie the data, one behind the other. -/
def RowAt (w : World) (F : Nat → Prop) : List D → Nat → Nat → Prop
  | [], _, _ => True
  | x :: r, b, o => (∃ cs, DAt w F x cs ∧ CellsAt w b o cs) ∧ RowAt w F r b (o + x.width)
end

mutual
theorem DAt.length {w : World} {F : Nat → Prop} : ∀ (x : D) (cs : List Value), DAt w F x cs → cs.length = x.width
  | .int _ _, _, h => by rw [DAt] at h; simp [h.1, D.width]
  | .bool _, _, h => by rw [DAt] at h; simp [h, D.width]
  | .str _, _, h => by rw [DAt] at h; simp [h.1, D.width]
  | .sl _, _, h => by rw [DAt] at h; obtain ⟨_, _, _, _, rfl, _⟩ := h; simp [D.width]
  | .st xs, cs, h => by rw [DAt] at h; rw [D.width]; exact DsAt.length xs cs h
theorem DsAt.length {w : World} {F : Nat → Prop} : ∀ (xs : List D) (cs : List Value), DsAt w F xs cs → cs.length = widths xs
  | [], _, h => by rw [DsAt] at h; simp [h, widths]
  | x :: r, cs, h => by
    rw [DsAt] at h; obtain ⟨c1, c2, rfl, h1, h2⟩ := h
    rw [List.length_append, DAt.length x c1 h1, DsAt.length r c2 h2, widths]
end

mutual
theorem DAt.agree {F : Nat → Prop} {w w' : World} (h : Agree F w w') : ∀ (x : D) (cs : List Value), DAt w F x cs → DAt w' F x cs
  | .int _ _, _, hx => by rw [DAt] at hx ⊢; exact hx
  | .bool _, _, hx => by rw [DAt] at hx ⊢; exact hx
  | .str _, _, hx => by rw [DAt] at hx ⊢; exact hx
  | .sl xs, _, hx => by
    rw [DAt] at hx ⊢
    obtain ⟨a, b, o, cap, e, hs, h1, h2, hr⟩ := hx
    exact ⟨a, b, o, cap, e, hs, h1, h2, RowAt.agree h xs b o (fun hne => (hs (by cases xs <;> simp_all)).2) hr⟩
  | .st xs, cs, hx => by rw [DAt] at hx ⊢; exact DsAt.agree h xs cs hx
theorem DsAt.agree {F : Nat → Prop} {w w' : World} (h : Agree F w w') : ∀ (xs : List D) (cs : List Value), DsAt w F xs cs → DsAt w' F xs cs
  | [], _, hx => by rw [DsAt] at hx ⊢; exact hx
  | x :: r, cs, hx => by
    rw [DsAt] at hx ⊢; obtain ⟨c1, c2, e, h1, h2⟩ := hx
    exact ⟨c1, c2, e, DAt.agree h x c1 h1, DsAt.agree h r c2 h2⟩
theorem RowAt.agree {F : Nat → Prop} {w w' : World} (h : Agree F w w') : ∀ (xs : List D) (b o : Nat), (xs ≠ [] → F b) → RowAt w F xs b o → RowAt w' F xs b o
  | [], _, _, _, _ => by rw [RowAt]; trivial
  | x :: r, b, o, hb, hx => by
    rw [RowAt] at hx ⊢
    obtain ⟨⟨cs, h1, h2⟩, hr⟩ := hx
    exact ⟨⟨cs, DAt.agree h x cs h1, h2.agree h (hb (by simp))⟩, RowAt.agree h r b _ (fun _ => hb (by simp)) hr⟩
end

mutual
theorem DAt.mono {F G : Nat → Prop} (h : ∀ k, F k → G k) {w : World} : ∀ (x : D) (cs : List Value), DAt w F x cs → DAt w G x cs
  | .int _ _, _, hx => by rw [DAt] at hx ⊢; exact hx
  | .bool _, _, hx => by rw [DAt] at hx ⊢; exact hx
  | .str _, _, hx => by rw [DAt] at hx ⊢; exact hx
  | .sl xs, _, hx => by
    rw [DAt] at hx ⊢
    obtain ⟨a, b, o, cap, e, hs, h1, h2, hr⟩ := hx
    exact ⟨a, b, o, cap, e, hs.mono h, h1, h2, RowAt.mono h xs b o hr⟩
  | .st xs, cs, hx => by rw [DAt] at hx ⊢; exact DsAt.mono h xs cs hx
theorem DsAt.mono {F G : Nat → Prop} (h : ∀ k, F k → G k) {w : World} : ∀ (xs : List D) (cs : List Value), DsAt w F xs cs → DsAt w G xs cs
  | [], _, hx => by rw [DsAt] at hx ⊢; exact hx
  | x :: r, cs, hx => by
    rw [DsAt] at hx ⊢; obtain ⟨c1, c2, e, h1, h2⟩ := hx
    exact ⟨c1, c2, e, DAt.mono h x c1 h1, DsAt.mono h r c2 h2⟩
theorem RowAt.mono {F G : Nat → Prop} (h : ∀ k, F k → G k) {w : World} : ∀ (xs : List D) (b o : Nat), RowAt w F xs b o → RowAt w G xs b o
  | [], _, _, _ => by rw [RowAt]; trivial
  | x :: r, b, o, hx => by
    rw [RowAt] at hx ⊢
    obtain ⟨⟨cs, h1, h2⟩, hr⟩ := hx
    exact ⟨⟨cs, DAt.mono h x cs h1, h2⟩, RowAt.mono h r b _ hr⟩
end

/-- The i-th datum of a row of data of one width. -/
theorem RowAt.get {w : World} {F : Nat → Prop} {sz : Nat} : ∀ {xs : List D} {b o : Nat}, RowAt w F xs b o → (∀ x ∈ xs, x.width = sz) → ∀ (i : Nat) (h : i < xs.length), ∃ cs, DAt w F xs[i] cs ∧ CellsAt w b (o + i * sz) cs
  | x :: r, b, o, h, _, 0, _ => by rw [RowAt] at h; simpa using h.1
  | x :: r, b, o, h, hw, i + 1, hi => by
    rw [RowAt] at h
    obtain ⟨cs, h1, h2⟩ := RowAt.get h.2 (fun y hy => hw y (by simp [hy])) i (by simpa using hi)
    refine ⟨cs, by simpa using h1, ?_⟩
    rw [hw x (by simp)] at h2
    rwa [show o + (i + 1) * sz = o + sz + i * sz from by rw [Nat.add_mul]; omega]

/-- A row out of its elements. -/
theorem RowAt.mk {w : World} {F : Nat → Prop} : ∀ {xs : List D} {b o : Nat} {cs : List Value}, DsAt w F xs cs → CellsAt w b o cs → RowAt w F xs b o
  | [], _, _, _, _, _ => by rw [RowAt]; trivial
  | x :: r, b, o, cs, h, hc => by
    rw [DsAt] at h; obtain ⟨c1, c2, rfl, h1, h2⟩ := h
    rw [RowAt]
    refine ⟨⟨c1, h1, fun j hj => ?_⟩, RowAt.mk h2 (fun j hj => ?_)⟩
    · have := hc j (by simp; omega)
      rwa [List.getElem_append_left hj] at this
    · have := hc (c1.length + j) (by simp; omega)
      rw [List.getElem_append_right (by omega)] at this
      simpa [DAt.length x c1 h1, Nat.add_assoc] using this

theorem DsAt.append {w : World} {F : Nat → Prop} : ∀ {xs ys : List D} {cs ds : List Value}, DsAt w F xs cs → DsAt w F ys ds → DsAt w F (xs ++ ys) (cs ++ ds)
  | [], _, _, _, h, k => by rw [DsAt] at h; subst h; simpa using k
  | x :: r, ys, cs, ds, h, k => by
    rw [DsAt] at h; obtain ⟨c1, c2, rfl, h1, h2⟩ := h
    rw [List.cons_append, DsAt]
    exact ⟨c1, c2 ++ ds, by simp, h1, DsAt.append h2 k⟩

mutual
/-- How many values and letters a datum holds. -/
def D.bulk : D → Nat
  | .str s => s.size + 1
  | .sl xs => bulks xs + 1
  | .st xs => bulks xs + 1
  | _ => 1
def bulks : List D → Nat
  | [] => 0
  | x :: r => x.bulk + bulks r
end
theorem bulk_pos (x : D) : 1 ≤ x.bulk := by cases x <;> simp [D.bulk]
theorem bulk_le {x : D} : ∀ {l : List D}, x ∈ l → x.bulk ≤ bulks l
  | y :: r, h => by
    rw [bulks]
    cases List.mem_cons.1 h with
    | inl e => subst e; omega
    | inr e => have := bulk_le e; omega
theorem length_le_bulks : ∀ l : List D, l.length ≤ bulks l
  | [] => by simp [bulks]
  | x :: r => by have := length_le_bulks r; have := bulk_pos x; simp [bulks]; omega

/-- A slice out of a row. -/
theorem DAt.slice {w : World} {F : Nat → Prop} {xs : List D} {b o cap : Nat} {a : Option Addr} (hs : SlAt F a b o xs.length) (h1 : xs.length ≤ cap) (h2 : cap ≤ maxLen) (h : RowAt w F xs b o) : DAt w F (.sl xs) [.slice a xs.length cap] := by
  rw [DAt]; exact ⟨a, b, o, cap, rfl, hs, h1, h2, h⟩

/-- A block that was laid last lies there later. -/
theorem boxed {w w1 : World} {o : Obj} {B : Nat} (hb : Below B (w.alloc o) w1) (hB : w.heap.size < B) : w1.heap[w.heap.size]? = some o := by
  rw [hb.block _ hB]; show (w.heap.push o)[w.heap.size]? = some o; simp
theorem cell_of_heap {w : World} {b i : Nat} {cs : Array Value} {t : TypeId} {fz : Nat × Nat} (h : w.heap[b]? = some (.cells cs t fz)) {v : Value} (hv : cs[i]? = some v) : w.cell? ⟨b, i, none⟩ = some v := by
  simp [World.cell?, h, hv]
theorem boxed4 {w w1 : World} {c0 c1 c2 c3 : Value} {t : TypeId} {fz : Nat × Nat} {B : Nat} (hb : Below B (w.alloc (.cells #[c0, c1, c2, c3] t fz)) w1) (hB : w.heap.size < B) :
    w1.cell? ⟨w.heap.size, 0, none⟩ = some c0 ∧ w1.cell? ⟨w.heap.size, 1, none⟩ = some c1 ∧ w1.cell? ⟨w.heap.size, 2, none⟩ = some c2 ∧ w1.cell? ⟨w.heap.size, 3, none⟩ = some c3 :=
  have h := boxed hb hB
  ⟨cell_of_heap h rfl, cell_of_heap h rfl, cell_of_heap h rfl, cell_of_heap h rfl⟩
/-- One block laid ahead, then what keeps all that was there. -/
theorem Below.ahead {w w1 : World} {o : Obj} {B : Nat} (hb : Below B (w.alloc o) w1) (hB : w.heap.size ≤ B) : Below w.heap.size w w1 := ((Below.refl _ w).alloc (Nat.le_refl _) o).trans (hb.mono hB)

end Go.Chalk
