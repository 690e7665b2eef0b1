/- What the lexer's function answers: runs; joining and lexing again; remarks. -/
import Derived.Test.YtpcbaokplifcoaaDoorLexProps
namespace Go.Chalk

def sideB (a c : Tok) : Bool := a.at_ + a.text.length == c.at_
def pairB (a c : Tok) : Bool := !(sideB a c && a.kind == 1 && c.kind != 3 && c.kind != 4 || sideB a c && a.kind == 2 && c.kind == 2) && !(a.kind == 4 || a.text.isEmpty)
def runsB : List Tok → Bool
  | [] => false
  | [a] => a.kind == 4
  | a :: c :: r => pairB a c && runsB (c :: r)

theorem dropWhile_not (p : UInt8 → Bool) {l : Bs} {c : UInt8} {r : Bs} (h : l.dropWhile p = c :: r) : p c = false := by
  rcases dropWhile_head p l with h0 | ⟨c', r', h0, h1⟩
  · rw [h0] at h; cases h
  · rw [h0] at h; simp only [List.cons.injEq] at h; rw [← h.1]; exact h1

theorem goF_runs : ∀ (f : Nat) (l : Bs) (at_ : Nat) (acc res : List Tok) (x : Nat), l.length < f → goF f l at_ acc = (res, x, 0) →
    ∃ t toks, res = acc ++ t :: toks ∧ runsB (t :: toks) = true ∧ at_ ≤ t.at_ ∧ (t.at_ = at_ → t.kind = 4 ∨ t.kind = 3 ∨ (t.kind = 1 ∧ ∃ c r, l = c :: r ∧ innerB c = true) ∨ (t.kind = 2 ∧ ∃ c r, l = c :: r ∧ digitB c = true))
  | 0, _, _, _, _, _, h, _ => by omega
  | f + 1, [], at_, acc, res, x, hf, h => by
    rw [goF] at h
    simp only [Prod.mk.injEq] at h
    exact ⟨_, [], h.1.symm, rfl, Nat.le_refl _, fun _ => .inl rfl⟩
  | f + 1, c :: r, at_, acc, res, x, hf, h => by
    simp only [List.length_cons] at hf
    rw [goF] at h
    by_cases hw : whiteB c = true
    · rw [if_pos hw] at h
      obtain ⟨t, toks, h1, h2, h3, _⟩ := goF_runs f r (at_ + 1) acc res x (by omega) h
      exact ⟨t, toks, h1, h2, by omega, fun h => by omega⟩
    rw [if_neg hw] at h
    by_cases hh : hashB c = true
    · rw [if_pos hh] at h
      have hlen : ((c :: r).takeWhile (fun x => !lineB x)).length + ((c :: r).dropWhile (fun x => !lineB x)).length = r.length + 1 := by
        rw [← List.length_append, List.takeWhile_append_dropWhile, List.length_cons]
      have hcl : lineB c = false := by
        simp only [hashB, beq_iff_eq] at hh
        simp [lineB, hh]
      have hpos : 0 < ((c :: r).takeWhile (fun x => !lineB x)).length := by
        rw [List.takeWhile_cons, if_pos (by simp [hcl])]; simp
      obtain ⟨t, toks, h1, h2, h3, _⟩ := goF_runs f ((c :: r).dropWhile (fun x => !lineB x)) _ acc res x (by omega) h
      exact ⟨t, toks, h1, h2, by omega, fun h => by omega⟩
    rw [if_neg hh] at h
    by_cases hn : (nextF (c :: r)).2.2 = true
    · rw [if_pos hn] at h
      have hp := next_pos hn
      rw [List.length_cons] at hp
      obtain ⟨t, toks, h1, h2, h3, h4⟩ := goF_runs f ((c :: r).drop (nextF (c :: r)).2.1.length) _ _ res x (by rw [List.length_drop, List.length_cons]; omega) h
      refine ⟨⟨(nextF (c :: r)).1, (nextF (c :: r)).2.1, at_⟩, t :: toks, by rw [h1]; simp, ?_, Nat.le_refl _, fun _ => ?_⟩
      · rw [runsB, h2, Bool.and_true]
        unfold pairB
        have hne : (nextF (c :: r)).2.1.isEmpty = false := by
          cases hq : (nextF (c :: r)).2.1 with
          | nil => rw [hq] at hp; simp at hp
          | cons _ _ => rfl
        by_cases hs : smallB c = true
        · rw [nextF, if_pos hs] at h4 hne ⊢
          simp only at h4 hne ⊢
          rw [drop_takeWhile] at h4
          rw [hne]
          simp only [beq_self_eq_true, Bool.and_true]
          have : sideB { kind := 1, text := (c :: r).takeWhile innerB, at_ := at_ } t = true → t.kind = 4 ∨ t.kind = 3 := fun hsd => by
            simp only [sideB, beq_iff_eq] at hsd
            rcases h4 hsd.symm with h | h | ⟨_, c', r', h5, h6⟩ | ⟨_, c', r', h5, h6⟩
            · exact .inl h
            · exact .inr h
            · have := dropWhile_not innerB h5; rw [this] at h6; cases h6
            · have := dropWhile_not innerB h5; simp [innerB, h6] at this
          cases hsd : sideB { kind := 1, text := (c :: r).takeWhile innerB, at_ := at_ } t with
          | false => rfl
          | true => rcases this hsd with h | h <;> rw [h] <;> rfl
        · by_cases hd : digitB c = true
          · rw [nextF, if_neg hs, if_pos hd] at h4 hne ⊢
            simp only at h4 hne ⊢
            rw [drop_takeWhile] at h4
            rw [hne]
            have : sideB { kind := 2, text := (c :: r).takeWhile digitB, at_ := at_ } t = true → t.kind ≠ 2 := fun hsd hk2 => by
              simp only [sideB, beq_iff_eq] at hsd
              rcases h4 hsd.symm with h | h | ⟨h, _⟩ | ⟨_, c', r', h5, h6⟩
              · omega
              · omega
              · omega
              · have := dropWhile_not digitB h5; rw [this] at h6; cases h6
            cases hsd : sideB { kind := 2, text := (c :: r).takeWhile digitB, at_ := at_ } t with
            | false => rfl
            | true => have := this hsd; simp [this]
          · rw [nextF, if_neg hs, if_neg hd] at hne ⊢
            simp only at hne ⊢
            rw [hne]
            simp
      · by_cases hs : smallB c = true
        · rw [nextF, if_pos hs]; exact .inr (.inr (.inl ⟨rfl, c, r, rfl, by simp [innerB, hs]⟩))
        · by_cases hd : digitB c = true
          · rw [nextF, if_neg hs, if_pos hd]; exact .inr (.inr (.inr ⟨rfl, c, r, rfl, hd⟩))
          · rw [nextF, if_neg hs, if_neg hd]; exact .inr (.inl rfl)
    · rw [if_neg hn] at h
      simp at h

/-! Joining. -/
def kt (t : Tok) : Int × Bs := (t.kind, t.text)
theorem sign_mem {l : Bs} (h : (signB l).isEmpty = false) : signsL.contains (signB l) = true := by
  unfold signB at h ⊢
  cases hf : signsL.find? (fun s => s.isPrefixOf l) with
  | none => simp [hf] at h
  | some s => simp only [Option.getD_some]; exact List.contains_iff_mem.2 (List.mem_of_find?_eq_some hf)
theorem next_right {c : UInt8} {r : Bs} {a : Nat} (h : (nextF (c :: r)).2.2 = true) : rightB ⟨(nextF (c :: r)).1, (nextF (c :: r)).2.1, a⟩ = true := by
  rw [nextF] at h ⊢
  split
  · rename_i hs; rw [if_pos hs] at h; exact h
  · rename_i hs
    split
    · rename_i hd; rw [if_neg hs, if_pos hd] at h; exact h
    · rename_i hd
      rw [if_neg hs, if_neg hd] at h
      exact sign_mem (by simpa using h)
/-- The tokens of a source: right ones, and the end. -/
theorem goF_right : ∀ (f : Nat) (l : Bs) (at_ : Nat) (acc res : List Tok) (x : Nat), l.length < f → goF f l at_ acc = (res, x, 0) → ∃ toks n, res = acc ++ (toks ++ [⟨4, [], n⟩]) ∧ toks.all rightB = true ∧ toks.length ≤ l.length ∧ (toks.map (fun t => t.text.length)).sum ≤ l.length
  | 0, _, _, _, _, _, h, _ => by omega
  | f + 1, [], at_, acc, res, x, hf, h => by
    rw [goF] at h
    simp only [Prod.mk.injEq] at h
    exact ⟨[], at_, h.1.symm, rfl, Nat.le_refl _, Nat.le_refl _⟩
  | f + 1, c :: r, at_, acc, res, x, hf, h => by
    simp only [List.length_cons] at hf ⊢
    rw [goF] at h
    by_cases hw : whiteB c = true
    · rw [if_pos hw] at h
      obtain ⟨toks, n, h1, h2, h3, h4⟩ := goF_right f r (at_ + 1) acc res x (by omega) h
      exact ⟨toks, n, h1, h2, by omega, by omega⟩
    rw [if_neg hw] at h
    by_cases hh : hashB c = true
    · rw [if_pos hh] at h
      have hlen : ((c :: r).takeWhile (fun x => !lineB x)).length + ((c :: r).dropWhile (fun x => !lineB x)).length = r.length + 1 := by
        rw [← List.length_append, List.takeWhile_append_dropWhile, List.length_cons]
      have hcl : lineB c = false := by
        simp only [hashB, beq_iff_eq] at hh
        simp [lineB, hh]
      have hpos : 0 < ((c :: r).takeWhile (fun x => !lineB x)).length := by
        rw [List.takeWhile_cons, if_pos (by simp [hcl])]; simp
      obtain ⟨toks, n, h1, h2, h3, h4⟩ := goF_right f ((c :: r).dropWhile (fun x => !lineB x)) _ acc res x (by omega) h
      exact ⟨toks, n, h1, h2, by omega, by omega⟩
    rw [if_neg hh] at h
    by_cases hn : (nextF (c :: r)).2.2 = true
    · rw [if_pos hn] at h
      have hp := next_pos hn
      rw [List.length_cons] at hp
      obtain ⟨toks, n, h1, h2, h3, h4⟩ := goF_right f ((c :: r).drop (nextF (c :: r)).2.1.length) _ _ res x (by rw [List.length_drop, List.length_cons]; omega) h
      rw [List.length_drop, List.length_cons] at h3 h4
      refine ⟨⟨(nextF (c :: r)).1, (nextF (c :: r)).2.1, at_⟩ :: toks, n, by rw [h1]; simp, by rw [List.all_cons, next_right hn, h2]; rfl, by simp; omega, by simp; omega⟩
    · rw [if_neg hn] at h
      simp at h

theorem takeWhile_app (p : UInt8 → Bool) : ∀ (x y : Bs), x.all p = true → (y = [] ∨ ∃ c r, y = c :: r ∧ p c = false) → (x ++ y).takeWhile p = x
  | [], y, _, h => by
    rcases h with rfl | ⟨c, r, rfl, h⟩
    · rfl
    · rw [List.nil_append, List.takeWhile_cons, if_neg (by simp [h])]
  | c :: r, y, ha, h => by
    rw [List.all_cons, Bool.and_eq_true] at ha
    rw [List.cons_append, List.takeWhile_cons, if_pos ha.1, takeWhile_app p r y ha.2 h]
theorem sign_space : ∀ s ∈ signsL, ∀ y : Bs, (y = [] ∨ ∃ r, y = 32 :: r) → signB (s ++ y) = s := by
  intro s hs y hy
  have key : ∀ s ∈ signsL, signB s = s ∧ ∀ t ∈ signsL, t.isPrefixOf (s ++ [32]) = t.isPrefixOf s := by decide
  rcases hy with rfl | ⟨r, rfl⟩
  · rw [List.append_nil]; exact (key s hs).1
  · have hp : ∀ t ∈ signsL, t.isPrefixOf (s ++ 32 :: r) = t.isPrefixOf s := fun t ht => by
      have h1 := (key s hs).2 t ht
      have hl : ∀ t ∈ signsL, t.length ≤ 2 := by decide
      have hl1 : ∀ t ∈ signsL, 1 ≤ t.length := by decide
      have hn : ∀ t ∈ signsL, ∀ c ∈ t, c ≠ 32 := by decide
      -- compare by cases on the lengths
      match s, t, hl s hs, hl1 s hs, hl t ht, hl1 t ht, hn t ht with
      | [a], [b], _, _, _, _, _ => simp [List.isPrefixOf]
      | [a], [b, b'], _, _, _, _, hb => have := hb b' (by simp); simp [List.isPrefixOf, this]
      | [a, a'], [b], _, _, _, _, _ => simp [List.isPrefixOf]
      | [a, a'], [b, b'], _, _, _, _, _ => simp [List.isPrefixOf]
    have : signB (s ++ 32 :: r) = signB s := by
      unfold signB
      congr 1
      have gen : ∀ L : List Bs, (∀ t ∈ L, t.isPrefixOf (s ++ 32 :: r) = t.isPrefixOf s) → L.find? (fun t => t.isPrefixOf (s ++ 32 :: r)) = L.find? (fun t => t.isPrefixOf s) := by
        intro L
        induction L with
        | nil => intro _; rfl
        | cons t L ih =>
          intro h
          rw [List.find?_cons, List.find?_cons, h t (by simp), ih (fun u hu => h u (by simp [hu]))]
      exact gen signsL hp
    rw [this]; exact (key s hs).1

/-- A right token before a space, or at the end, is read back. -/
theorem right_next (t : Tok) (h : rightB t = true) (y : Bs) (hy : y = [] ∨ ∃ r, y = 32 :: r) :
    ∃ c r, t.text ++ y = c :: r ∧ whiteB c = false ∧ hashB c = false ∧ nextF (c :: r) = (t.kind, t.text, true) := by
  obtain ⟨k, x, a⟩ := t
  have hyi : ∀ p : UInt8 → Bool, p 32 = false → (y = [] ∨ ∃ c r, y = c :: r ∧ p c = false) := fun p hp => by
    rcases hy with h | ⟨r, h⟩
    · exact .inl h
    · exact .inr ⟨32, r, h, hp⟩
  unfold rightB at h
  simp only at h ⊢
  by_cases h1 : k = 1
  · rw [if_pos h1] at h
    subst h1
    cases x with
    | nil => simp [wordB] at h
    | cons c r =>
      have hw := h
      rw [wordB] at h
      simp only [Bool.and_eq_true] at h
      obtain ⟨⟨hs, ha⟩, _⟩ := h
      have htw : (c :: (r ++ y)).takeWhile innerB = c :: r := by
        have := takeWhile_app innerB (c :: r) y ha (hyi innerB (by decide)); simpa using this
      refine ⟨c, r ++ y, rfl, ?_, ?_, ?_⟩
      · simp only [smallB, Bool.and_eq_true, decide_eq_true_eq] at hs
        simp [whiteB]; omega
      · simp only [smallB, Bool.and_eq_true, decide_eq_true_eq] at hs
        simp [hashB]; omega
      · rw [nextF, if_pos hs, htw, hw]
  rw [if_neg h1] at h
  by_cases h2 : k = 2
  · rw [if_pos h2] at h
    subst h2
    cases x with
    | nil => simp [numB] at h
    | cons c r =>
      have hw := h
      rw [numB] at h
      simp only [Bool.and_eq_true] at h
      obtain ⟨⟨ha, _⟩, _⟩ := h
      have hdc : digitB c = true := by rw [List.all_cons, Bool.and_eq_true] at ha; exact ha.1
      have htw : (c :: (r ++ y)).takeWhile digitB = c :: r := by
        have := takeWhile_app digitB (c :: r) y ha (hyi digitB (by decide)); simpa using this
      have hds := hdc
      simp only [digitB, Bool.and_eq_true, decide_eq_true_eq] at hds
      have hs : smallB c = false := by simp [smallB]; omega
      refine ⟨c, r ++ y, rfl, ?_, ?_, ?_⟩
      · simp [whiteB]; omega
      · simp [hashB]; omega
      · rw [nextF, if_neg (by simp [hs]), if_pos hdc, htw, hw]
  rw [if_neg h2] at h
  by_cases h3 : k = 3
  · rw [if_pos h3] at h
    subst h3
    have hm := List.contains_iff_mem.1 h
    have hsp := sign_space x hm y hy
    have key : ∀ s ∈ signsL, (match s with | c :: _ => !whiteB c && !hashB c && !smallB c && !digitB c | [] => false) = true := by decide
    have hk := key x hm
    cases x with
    | nil => simp at hk
    | cons c r =>
    simp only [Bool.and_eq_true, Bool.not_eq_true'] at hk
    obtain ⟨⟨⟨k1, k2⟩, k3⟩, k4⟩ := hk
    refine ⟨c, r ++ y, rfl, k1, k2, ?_⟩
    rw [nextF, if_neg (by simp [k3]), if_neg (by simp [k4])]
    rw [List.cons_append] at hsp
    rw [hsp]; rfl
  · rw [if_neg h3] at h; cases h
end Go.Chalk
