/- flat.Simple as a function of trees: it keeps the value and the form, and does not grow. -/
import Derived.Test.YtpacnaeckbcpjaaDoorKept
namespace Go.Chalk
open Go.RowKit Go.Proofs.YtpacnaeckbcpjaaDoor

def constT (v : Int) : Tr := .mk 1 v 0 []
def knownT (t : Tr) : Bool := t.kind == 1
def openT (t : Tr) : Bool := t.kind != 1
def idleI (kind : Int) : Int := if kind = 4 then 1 else 0
def flatOne (kind : Int) (t : Tr) : List Tr := if t.kind = kind then t.l else [t]
def flatT (kind : Int) (l : List Tr) : List Tr := l.flatMap (flatOne kind)
def oddT (kind : Int) (t : Tr) : Bool := knownT t && (t.v != idleI kind)
def endT (kind : Int) : List Tr → Tr
  | [] => constT (idleI kind)
  | [x] => x
  | x :: y :: r => .mk kind 0 0 (x :: y :: r)
def joinT (kind : Int) (l : List Tr) : Tr := if l.any (oddT kind) then constT (1 - idleI kind) else endT kind (flatT kind (l.filter openT))
def oneT (t : Tr) : Bool := knownT t && (t.v == 1)
def notT : List Tr → Tr
  | [] => constT 0
  | x :: r => if x.kind = 1 then constT (1 - x.v) else if x.kind = 3 then x.l.headD (constT 0) else .mk 3 0 0 (x :: r)
def leastT (k : Int) (m : List Tr) : Tr :=
  if k - ((m.filter oneT).length : Int) ≤ 0 then constT 1
  else if ((m.filter openT).length : Int) < k - ((m.filter oneT).length : Int) then constT 0
  else if k - ((m.filter oneT).length : Int) = ((m.filter openT).length : Int) then joinT 4 (m.filter openT)
  else if k - ((m.filter oneT).length : Int) = 1 then joinT 5 (m.filter openT)
  else .mk 6 0 (k - ((m.filter oneT).length : Int)) (m.filter openT)
mutual
def madeT : Tr → Tr
  | .mk kind v k l => if kind = 3 then notT (madeTs l) else if kind = 4 ∨ kind = 5 then joinT kind (madeTs l) else if kind = 6 then leastT k (madeTs l) else .mk kind v k l
def madeTs : List Tr → List Tr
  | [] => []
  | t :: r => madeT t :: madeTs r
end
theorem madeTs_eq : ∀ l : List Tr, madeTs l = l.map madeT
  | [] => rfl
  | t :: r => by rw [madeTs, madeTs_eq r]; rfl
theorem madeT_3 (v k : Int) (l : List Tr) : madeT (.mk 3 v k l) = notT (madeTs l) := by rw [madeT, if_pos rfl]
theorem madeT_4 (v k : Int) (l : List Tr) : madeT (.mk 4 v k l) = joinT 4 (madeTs l) := by rw [madeT, if_neg (by omega), if_pos (.inl rfl)]
theorem madeT_5 (v k : Int) (l : List Tr) : madeT (.mk 5 v k l) = joinT 5 (madeTs l) := by rw [madeT, if_neg (by omega), if_pos (.inr rfl)]
theorem madeT_6 (v k : Int) (l : List Tr) : madeT (.mk 6 v k l) = leastT k (madeTs l) := by rw [madeT, if_neg (by omega), if_neg (by omega), if_pos rfl]
theorem madeT_1 (v k : Int) (l : List Tr) : madeT (.mk 1 v k l) = .mk 1 v k l := by rw [madeT, if_neg (by omega), if_neg (by omega), if_neg (by omega)]
theorem madeT_2 (v k : Int) (l : List Tr) : madeT (.mk 2 v k l) = .mk 2 v k l := by rw [madeT, if_neg (by omega), if_neg (by omega), if_neg (by omega)]

/-! The form. -/
theorem mayB_const {v n : Int} (h : v = 0 ∨ v = 1) : mayB (constT v) n = true := by rcases h with rfl | rfl <;> rfl
theorem mayB_node {t : Tr} {n : Int} (h : mayB t n = true) : nodeOk t n = true ∧ mayAll t.l n = true := by
  obtain ⟨kind, v, k, l⟩ := t
  rw [mayB, Bool.and_eq_true] at h; exact h
theorem mayB_known {t : Tr} {n : Int} (h : mayB t n = true) (hk : knownT t = true) : t.v = 0 ∨ t.v = 1 := by
  obtain ⟨kind, v, k, l⟩ := t
  have := (mayB_node h).1
  simp only [knownT, Tr.kind, beq_iff_eq] at hk
  subst hk
  unfold nodeOk at this
  simp at this
  exact this.1
theorem mayAll_mem {l : List Tr} {n : Int} (h : mayAll l n = true) {t : Tr} (ht : t ∈ l) : mayB t n = true := by
  rw [mayAll_eq, List.all_eq_true] at h; exact h t ht
theorem mayAll_of {l : List Tr} {n : Int} (h : ∀ t ∈ l, mayB t n = true) : mayAll l n = true := by
  rw [mayAll_eq, List.all_eq_true]; exact h
theorem mayAll_filter {l : List Tr} {n : Int} (p : Tr → Bool) (h : mayAll l n = true) : mayAll (l.filter p) n = true :=
  mayAll_of fun _ ht => mayAll_mem h (List.mem_filter.1 ht).1
theorem mayAll_flat {l : List Tr} {n : Int} (kind : Int) (h : mayAll l n = true) : mayAll (flatT kind l) n = true := mayAll_of fun t ht => by
  obtain ⟨x, hx, hxt⟩ := List.mem_flatMap.1 ht
  have hb := mayAll_mem h hx
  unfold flatOne at hxt
  split at hxt
  · exact mayAll_mem (mayB_node hb).2 hxt
  · rw [List.mem_singleton.1 hxt]; exact hb
theorem mayB_end {kind n : Int} (hk : kind = 4 ∨ kind = 5) : ∀ {l : List Tr}, mayAll l n = true → mayB (endT kind l) n = true
  | [], _ => by rcases hk with rfl | rfl <;> rfl
  | [x], h => by rw [endT]; exact mayAll_mem h (by simp)
  | x :: y :: r, h => by
    rw [endT, mayB, h, Bool.and_true]
    rcases hk with rfl | rfl <;> rfl
theorem mayB_join {kind n : Int} (hk : kind = 4 ∨ kind = 5) {l : List Tr} (h : mayAll l n = true) : mayB (joinT kind l) n = true := by
  unfold joinT
  split
  · exact mayB_const (by rcases hk with rfl | rfl <;> simp [idleI])
  · exact mayB_end hk (mayAll_flat kind (mayAll_filter _ h))
theorem mayB_not {n : Int} {x : Tr} (h : mayB x n = true) : mayB (notT [x]) n = true := by
  rw [notT]
  split
  · rename_i hk
    exact mayB_const (by rcases mayB_known h (by simp [knownT, hk]) with h | h <;> rw [h] <;> simp)
  · split
    · have := (mayB_node h).2
      cases hl : x.l with
      | nil => exact mayB_const (.inl rfl)
      | cons y r => rw [hl] at this; exact mayAll_mem this (by simp)
    · rw [mayB, mayAll, h]; rfl
theorem mayB_least {n k : Int} {m : List Tr} (hk : 0 ≤ k ∧ k ≤ 1099511627776) (h : mayAll m n = true) : mayB (leastT k m) n = true := by
  unfold leastT
  split
  · exact mayB_const (.inr rfl)
  split
  · exact mayB_const (.inl rfl)
  split
  · exact mayB_join (.inl rfl) (mayAll_filter _ h)
  split
  · exact mayB_join (.inr rfl) (mayAll_filter _ h)
  · rw [mayB, mayAll_filter _ h, Bool.and_true]
    unfold nodeOk
    simp
    omega
theorem nodeOk_6 {v k n : Int} {l : List Tr} (h : nodeOk (.mk 6 v k l) n = true) : 0 ≤ k ∧ k ≤ 1099511627776 := by
  unfold nodeOk at h; simp at h; omega
theorem nodeOk_3 {v k n : Int} {l : List Tr} (h : nodeOk (.mk 3 v k l) n = true) : ∃ x, l = [x] := by
  unfold nodeOk at h; simp at h; exact List.length_eq_one_iff.1 h.2.2
mutual
theorem mayB_made : ∀ (t : Tr) (n : Int), mayB t n = true → mayB (madeT t) n = true
  | .mk kind v k l, n, h => by
    have hn := (mayB_node h).1
    have hl := mayAll_made l n (mayB_node h).2
    rw [madeT]
    split
    · rename_i h3; subst h3
      obtain ⟨x, rfl⟩ := nodeOk_3 hn
      rw [madeTs, madeTs] at hl ⊢
      exact mayB_not (mayAll_mem hl (by simp))
    split
    · rename_i h4; exact mayB_join h4 hl
    split
    · rename_i h6; subst h6; exact mayB_least (nodeOk_6 hn) hl
    · exact h
theorem mayAll_made : ∀ (l : List Tr) (n : Int), mayAll l n = true → mayAll (madeTs l) n = true
  | [], _, _ => rfl
  | t :: r, n, h => by
    rw [mayAll, Bool.and_eq_true] at h
    rw [madeTs, mayAll, mayB_made t n h.1, mayAll_made r n h.2]; rfl
end

/-! The size. -/
theorem size_const (v : Int) : (constT v).size = 1 := rfl
theorem sizes_append : ∀ a b : List Tr, sizes (a ++ b) = sizes a + sizes b
  | [], b => by simp [sizes]
  | t :: r, b => by rw [List.cons_append, sizes, sizes, sizes_append r b]; omega
theorem sizes_filter (p : Tr → Bool) : ∀ l : List Tr, sizes (l.filter p) ≤ sizes l
  | [] => by simp
  | t :: r => by
    have := sizes_filter p r
    rw [List.filter_cons, sizes]
    split
    · rw [sizes]; omega
    · omega
theorem sizes_flat (kind : Int) : ∀ l : List Tr, sizes (flatT kind l) ≤ sizes l
  | [] => by simp [flatT]
  | t :: r => by
    have := sizes_flat kind r
    have e : flatT kind (t :: r) = flatOne kind t ++ flatT kind r := by simp [flatT]
    rw [e, sizes_append, sizes]
    have : sizes (flatOne kind t) ≤ t.size := by
      unfold flatOne
      split
      · obtain ⟨a, b, c, l⟩ := t; rw [Tr.size, Tr.l]; omega
      · rw [sizes, sizes]; omega
    omega
theorem size_end (kind : Int) : ∀ l : List Tr, (endT kind l).size ≤ 1 + sizes l
  | [] => by simp [endT, size_const]
  | [x] => by rw [endT, sizes]; omega
  | x :: y :: r => by rw [endT, Tr.size]; omega
theorem size_join (kind : Int) (l : List Tr) : (joinT kind l).size ≤ 1 + sizes l := by
  unfold joinT
  split
  · rw [size_const]; omega
  · have h1 := size_end kind (flatT kind (l.filter openT))
    have h2 := sizes_flat kind (l.filter openT)
    have h3 := sizes_filter openT l
    omega
theorem size_not (x : Tr) : (notT [x]).size ≤ 1 + x.size := by
  rw [notT]
  split
  · rw [size_const]; omega
  split
  · obtain ⟨a, b, c, l⟩ := x
    rw [Tr.l, Tr.size]
    cases l with
    | nil => simp [size_const]
    | cons y r => simp only [List.headD_cons, sizes]; omega
  · rw [Tr.size, sizes, sizes]; omega
theorem size_least (k : Int) (m : List Tr) : (leastT k m).size ≤ 1 + sizes m := by
  have h3 := sizes_filter openT m
  unfold leastT
  split
  · rw [size_const]; omega
  split
  · rw [size_const]; omega
  split
  · have := size_join 4 (m.filter openT); omega
  split
  · have := size_join 5 (m.filter openT); omega
  · rw [Tr.size]; omega
mutual
theorem size_made : ∀ (t : Tr) (n : Int), mayB t n = true → (madeT t).size ≤ t.size
  | .mk kind v k l, n, h => by
    have hn := (mayB_node h).1
    have hl := sizes_made l n (mayB_node h).2
    rw [madeT]
    split
    · rename_i h3; subst h3
      obtain ⟨x, rfl⟩ := nodeOk_3 hn
      rw [madeTs, madeTs] at hl ⊢
      have := size_not (madeT x)
      rw [Tr.size]
      rw [sizes, sizes] at hl
      omega
    split
    · have := size_join kind (madeTs l); rw [Tr.size]; omega
    split
    · have := size_least k (madeTs l); rw [Tr.size]; omega
    · exact Nat.le_refl _
theorem sizes_made : ∀ (l : List Tr) (n : Int), mayAll l n = true → sizes (madeTs l) ≤ sizes l
  | [], _, _ => by simp [madeTs]
  | t :: r, n, h => by
    rw [mayAll, Bool.and_eq_true] at h
    have := size_made t n h.1
    have := sizes_made r n h.2
    rw [madeTs, sizes, sizes]; omega
end

/-! The value. -/
theorem valT_const (v : Int) (a : List Bool) : valT (constT v) a = (v == 1) := valT_1 _ _ _ _
theorem valT_known {t : Tr} (h : knownT t = true) (a : List Bool) : valT t a = (t.v == 1) := by
  obtain ⟨kind, v, k, l⟩ := t
  simp only [knownT, Tr.kind, beq_iff_eq] at h
  subst h
  exact valT_1 _ _ _ _
theorem all_cntT (a : List Bool) : ∀ l : List Tr, decide (cntT l a = l.length) = l.all (valT · a)
  | [] => by simp [cntT]
  | t :: r => by
    have h1 := all_cntT a r
    have h2 := cntT_le a r
    rw [cntT, List.all_cons, ← h1, List.length_cons]
    cases valT t a
    · simp; omega
    · simp; omega
theorem valT_and (v k : Int) (l : List Tr) (a : List Bool) : valT (.mk 4 v k l) a = l.all (valT · a) := by rw [valT_4, all_cntT]
theorem valT_or (v k : Int) (l : List Tr) (a : List Bool) : valT (.mk 5 v k l) a = l.any (valT · a) := by rw [valT_5, cntT_any]
theorem all_flat (a : List Bool) : ∀ l : List Tr, (flatT 4 l).all (valT · a) = l.all (valT · a)
  | [] => rfl
  | t :: r => by
    have e : flatT 4 (t :: r) = flatOne 4 t ++ flatT 4 r := by simp [flatT]
    rw [e, List.all_append, all_flat a r, List.all_cons]
    congr 1
    unfold flatOne
    split
    · rename_i h
      obtain ⟨kind, v, k, l⟩ := t
      simp only [Tr.kind] at h
      subst h
      rw [valT_and, Tr.l]
    · simp
theorem any_flat (a : List Bool) : ∀ l : List Tr, (flatT 5 l).any (valT · a) = l.any (valT · a)
  | [] => rfl
  | t :: r => by
    have e : flatT 5 (t :: r) = flatOne 5 t ++ flatT 5 r := by simp [flatT]
    rw [e, List.any_append, any_flat a r, List.any_cons]
    congr 1
    unfold flatOne
    split
    · rename_i h
      obtain ⟨kind, v, k, l⟩ := t
      simp only [Tr.kind] at h
      subst h
      rw [valT_or, Tr.l]
    · simp
theorem val_end4 (a : List Bool) : ∀ l : List Tr, valT (endT 4 l) a = l.all (valT · a)
  | [] => by rw [endT, valT_const]; rfl
  | [x] => by simp [endT]
  | x :: y :: r => by rw [endT, valT_and]
theorem val_end5 (a : List Bool) : ∀ l : List Tr, valT (endT 5 l) a = l.any (valT · a)
  | [] => by rw [endT, valT_const]; rfl
  | [x] => by simp [endT]
  | x :: y :: r => by rw [endT, valT_or]
theorem open_known (t : Tr) : openT t = !knownT t := by simp [openT, knownT, bne]
theorem val_join4 (a : List Bool) {l : List Tr} {n : Int} (h : mayAll l n = true) : valT (joinT 4 l) a = l.all (valT · a) := by
  unfold joinT
  split
  · rename_i hodd
    obtain ⟨x, hx, hx2⟩ := List.any_eq_true.1 hodd
    simp only [oddT, Bool.and_eq_true] at hx2
    have hv := mayB_known (mayAll_mem h hx) hx2.1
    have hv0 : valT x a = false := by
      rw [valT_known hx2.1]
      rcases hv with hv | hv
      · rw [hv]; rfl
      · have := hx2.2; rw [hv] at this; simp [idleI] at this
    rw [valT_const]
    symm
    rw [show ((1 - idleI 4 : Int) == 1) = false from rfl]
    exact List.all_eq_false.2 ⟨x, hx, by rw [hv0]; simp⟩
  · rename_i hodd
    rw [val_end4, all_flat]
    have hodd : l.any (oddT 4) = false := by simpa using hodd
    rw [List.any_eq_false] at hodd
    rw [Bool.eq_iff_iff, List.all_eq_true, List.all_eq_true]
    constructor
    · intro hf x hx
      cases hk : knownT x with
      | false => exact hf x (List.mem_filter.2 ⟨hx, by rw [open_known, hk]; rfl⟩)
      | true =>
        have := hodd x hx
        rw [valT_known hk]
        simp only [oddT, hk, Bool.true_and, idleI, if_true, bne] at this
        simpa using this
    · intro hf x hx; exact hf x (List.mem_filter.1 hx).1
theorem val_join5 (a : List Bool) {l : List Tr} {n : Int} (h : mayAll l n = true) : valT (joinT 5 l) a = l.any (valT · a) := by
  unfold joinT
  split
  · rename_i hodd
    obtain ⟨x, hx, hx2⟩ := List.any_eq_true.1 hodd
    simp only [oddT, Bool.and_eq_true] at hx2
    have hv := mayB_known (mayAll_mem h hx) hx2.1
    have hv0 : valT x a = true := by
      rw [valT_known hx2.1]
      rcases hv with hv | hv
      · have := hx2.2; rw [hv] at this; simp [idleI] at this
      · rw [hv]; rfl
    rw [valT_const]
    symm
    rw [show ((1 - idleI 5 : Int) == 1) = true from rfl]
    exact List.any_eq_true.2 ⟨x, hx, hv0⟩
  · rename_i hodd
    rw [val_end5, any_flat]
    have hodd : l.any (oddT 5) = false := by simpa using hodd
    rw [List.any_eq_false] at hodd
    rw [Bool.eq_iff_iff, List.any_eq_true, List.any_eq_true]
    constructor
    · rintro ⟨x, hx, hv⟩; exact ⟨x, (List.mem_filter.1 hx).1, hv⟩
    · rintro ⟨x, hx, hv⟩
      refine ⟨x, List.mem_filter.2 ⟨hx, ?_⟩, hv⟩
      rw [open_known]
      cases hk : knownT x with
      | false => rfl
      | true =>
        have := hodd x hx
        rw [valT_known hk] at hv
        simp only [beq_iff_eq] at hv
        simp [oddT, hk, idleI, hv] at this
theorem cnt_parts (a : List Bool) {n : Int} : ∀ l : List Tr, mayAll l n = true → cntT l a = (l.filter oneT).length + cntT (l.filter openT) a
  | [], _ => by simp [cntT]
  | t :: r, h => by
    rw [mayAll, Bool.and_eq_true] at h
    have ih := cnt_parts a r h.2
    rw [cntT, ih, List.filter_cons, List.filter_cons]
    cases hk : knownT t with
    | false =>
      have h1 : oneT t = false := by simp [oneT, hk]
      have h2 : openT t = true := by rw [open_known, hk]; rfl
      rw [h1, h2]
      simp only [Bool.false_eq_true, if_false, if_true, cntT]; omega
    | true =>
      have h2 : openT t = false := by rw [open_known, hk]; rfl
      have h1 : oneT t = (t.v == 1) := by simp [oneT, hk]
      rw [h1, h2, valT_known hk]
      split <;> simp <;> omega
theorem val_least (a : List Bool) {n k : Int} {m : List Tr} (h : mayAll m n = true) : valT (leastT k m) a = decide (k ≤ (cntT m a : Int)) := by
  have hc := cnt_parts a m h
  have hle := cntT_le a (m.filter openT)
  have hf := mayAll_filter openT h
  unfold leastT
  split
  · rw [valT_const]; symm; simp; omega
  split
  · rw [valT_const]; symm; simp; omega
  split
  · rw [val_join4 a hf, ← all_cntT]
    rw [decide_eq_decide]; omega
  split
  · rw [val_join5 a hf, cntT_any]
    rw [decide_eq_decide]; omega
  · rw [valT_6, decide_eq_decide]; omega
theorem val_not (a : List Bool) {n : Int} {x : Tr} (h : mayB x n = true) : valT (notT [x]) a = !valT x a := by
  rw [notT]
  split
  · rename_i hk
    have hkn : knownT x = true := by simp [knownT, hk]
    rw [valT_const, valT_known hkn]
    rcases mayB_known h hkn with h | h <;> rw [h] <;> rfl
  split
  · rename_i hk
    obtain ⟨kind, v, k, l⟩ := x
    simp only [Tr.kind] at hk
    subst hk
    obtain ⟨y, rfl⟩ := nodeOk_3 (mayB_node h).1
    rw [valT_3, Tr.l, cntT, cntT]
    simp only [List.headD_cons]
    cases valT y a <;> simp
  · rw [valT_3, cntT, cntT]
    cases valT x a <;> simp
mutual
theorem val_made : ∀ (t : Tr) (n : Int) (a : List Bool), mayB t n = true → valT (madeT t) a = valT t a
  | .mk kind v k l, n, a, h => by
    have hn := (mayB_node h).1
    have hm := mayAll_made l n (mayB_node h).2
    have hl := cnt_made l n a (mayB_node h).2
    have hlen : (madeTs l).length = l.length := by rw [madeTs_eq]; simp
    rw [madeT]
    split
    · rename_i h3; subst h3
      obtain ⟨x, rfl⟩ := nodeOk_3 hn
      rw [madeTs, madeTs] at hl hm ⊢
      rw [val_not a (mayAll_mem hm (by simp)), valT_3]
      rw [cntT, cntT, cntT, cntT] at hl
      rw [cntT, cntT]
      revert hl
      cases valT (madeT x) a <;> cases valT x a <;> simp
    split
    · rename_i h4
      rcases h4 with rfl | rfl
      · rw [val_join4 a hm, valT_4, ← all_cntT, hl, hlen]
      · rw [val_join5 a hm, valT_5, cntT_any, hl]
    split
    · rename_i h6; subst h6
      rw [val_least a hm, valT_6, hl]
    · rfl
theorem cnt_made : ∀ (l : List Tr) (n : Int) (a : List Bool), mayAll l n = true → cntT (madeTs l) a = cntT l a
  | [], _, _, _ => rfl
  | t :: r, n, a, h => by
    rw [mayAll, Bool.and_eq_true] at h
    rw [madeTs, cntT, cntT, val_made t n a h.1, cnt_made r n a h.2]
end

mutual
theorem mayB_wider : ∀ (t : Tr) (n m : Int), n ≤ m → mayB t n = true → mayB t m = true
  | .mk kind v k l, n, m, hnm, h => by
    have hn := (mayB_node h).1
    rw [mayB, mayAll_wider l n m hnm (mayB_node h).2, Bool.and_true]
    unfold nodeOk at hn ⊢
    simp only at hn ⊢
    split
    · rename_i h1; rwa [if_pos h1] at hn
    rename_i h1; rw [if_neg h1] at hn
    split
    · rename_i h2; rw [if_pos h2] at hn; simp at hn ⊢; exact ⟨hn.1, by omega, hn.2.2⟩
    rename_i h2; rw [if_neg h2] at hn
    exact hn
theorem mayAll_wider : ∀ (l : List Tr) (n m : Int), n ≤ m → mayAll l n = true → mayAll l m = true
  | [], _, _, _, _ => rfl
  | t :: r, n, m, hnm, h => by
    rw [mayAll, Bool.and_eq_true] at h
    rw [mayAll, mayB_wider t n m hnm h.1, mayAll_wider r n m hnm h.2]; rfl
end
end Go.Chalk
