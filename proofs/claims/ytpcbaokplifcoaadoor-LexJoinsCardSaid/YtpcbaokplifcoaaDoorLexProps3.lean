/- Joining the tokens of a source and reading them again; white space and remarks around a source. -/
import Derived.Test.YtpcbaokplifcoaaDoorLexProps2
namespace Go.Chalk

theorem spaced_length : ∀ l : List Bs, (spaced l).length ≤ (l.map List.length).sum + l.length
  | [] => by simp [spaced]
  | [t] => by simp [spaced]
  | t :: u :: r => by
    have := spaced_length (u :: r)
    simp only [spaced, List.map_cons, List.sum_cons, List.length_append, List.length_cons] at this ⊢
    omega

/-- Right tokens, joined by spaces, are read back. -/
theorem lex_spaced : ∀ (ts : List Tok), ts.all rightB = true → ∀ (at_ : Nat) (acc : List Tok), ∃ toks n, lexS (spaced (ts.map Tok.text)) at_ acc = (acc ++ (toks ++ [⟨4, [], n⟩]), 0, 0) ∧ toks.map kt = ts.map kt
  | [], _, at_, acc => ⟨[], at_, lexS_end at_ acc, rfl⟩
  | [t], h, at_, acc => by
    rw [List.all_cons, Bool.and_eq_true] at h
    obtain ⟨c, r, h1, h2, h3, h4⟩ := right_next t h.1 [] (.inl rfl)
    rw [List.append_nil] at h1
    simp only [List.map_cons, List.map_nil, spaced, h1]
    rw [lexS_tok h2 h3 (by rw [h4]), h4]
    simp only
    rw [h1, List.drop_length, lexS_end]
    exact ⟨[⟨t.kind, c :: r, at_⟩], at_ + (c :: r).length, by rw [List.append_assoc], by simp [kt, h1]⟩
  | t :: u :: r, h, at_, acc => by
    rw [List.all_cons, Bool.and_eq_true] at h
    obtain ⟨c, r', h1, h2, h3, h4⟩ := right_next t h.1 (32 :: spaced ((u :: r).map Tok.text)) (.inr ⟨_, rfl⟩)
    have e : spaced ((t :: u :: r).map Tok.text) = c :: r' := h1
    rw [e, lexS_tok h2 h3 (by rw [h4]), h4]
    simp only
    rw [← h1, List.drop_left, lexS_white (by decide)]
    obtain ⟨toks, n, g1, g2⟩ := lex_spaced (u :: r) h.2 (at_ + t.text.length + 1) (acc ++ [⟨t.kind, t.text, at_⟩])
    exact ⟨⟨t.kind, t.text, at_⟩ :: toks, n, by rw [g1]; simp, by rw [List.map_cons, List.map_cons, g2]; rfl⟩

theorem rightB_kt {a b : Tok} (h : kt a = kt b) : rightB a = rightB b := by
  obtain ⟨h1, h2⟩ := Prod.mk.inj h
  unfold rightB
  rw [h1, h2]
theorem all_kt : ∀ {a b : List Tok}, a.map kt = b.map kt → a.all rightB = b.all rightB ∧ a.map Tok.text = b.map Tok.text
  | [], [], _ => ⟨rfl, rfl⟩
  | [], _ :: _, h => by simp at h
  | _ :: _, [], h => by simp at h
  | x :: r, y :: s, h => by
    simp only [List.map_cons, List.cons.injEq] at h
    obtain ⟨g1, g2⟩ := all_kt h.2
    refine ⟨by rw [List.all_cons, List.all_cons, rightB_kt h.1, g1], ?_⟩
    rw [List.map_cons, List.map_cons, g2, (Prod.mk.inj h.1).2]
theorem joinF_ends {ts : List Tok} {n : Nat} (h : ts.all rightB = true) (hl : (spaced (ts.map Tok.text)).length ≤ 16384) : joinF (ts ++ [⟨4, [], n⟩]) = (spaced (ts.map Tok.text), 0) := by
  unfold joinF
  rw [List.getLast?_concat]
  rw [List.dropLast_concat]
  show (if (4 : Int) = 4 ∧ ([] : Bs) = [] ∧ ts.all rightB = true then _ else _) = _
  rw [if_pos ⟨rfl, rfl, h⟩, if_neg (by omega)]

/-- Joining the tokens of a source yields a normal form. -/
theorem lex_again (b : Bs) (hb : b.length ≤ 2000) {res : List Tok} {x : Nat} (h : lexS b 0 [] = (res, x, 0)) :
    ∃ c m, joinF res = (c, 0) ∧ c.length ≤ 4000 ∧ tokensF c = (m, 0, 0) ∧ joinF m = (c, 0) ∧ m.map kt = res.map kt := by
  obtain ⟨ts, n, h1, h2, h3, h4⟩ := goF_right (b.length + 1) b 0 [] res x (by omega) h
  rw [List.nil_append] at h1
  have hl := spaced_length (ts.map Tok.text)
  rw [List.map_map, List.length_map] at hl
  have hl2 : (spaced (ts.map Tok.text)).length ≤ 4000 := by
    have e : (ts.map (List.length ∘ Tok.text)).sum = (ts.map (fun t => t.text.length)).sum := rfl
    omega
  obtain ⟨toks, k, g1, g2⟩ := lex_spaced ts h2 0 []
  rw [List.nil_append] at g1
  obtain ⟨q1, q2⟩ := all_kt g2
  refine ⟨spaced (ts.map Tok.text), toks ++ [⟨4, [], k⟩], by rw [h1]; exact joinF_ends h2 (by omega), hl2, ?_, ?_, ?_⟩
  · unfold tokensF; rw [if_neg (by omega)]; exact g1
  · rw [← q2]; exact joinF_ends (by rw [q1]; exact h2) (by rw [q2]; omega)
  · rw [h1, List.map_append, List.map_append, g2]; rfl

/-! Around a source. -/
/-- What is told of an answer but the places. -/
def ali (r : List Tok × Nat × Int) : List (Int × Bs) × Int := (r.1.map kt, r.2.2)
theorem ali_goF : ∀ (f : Nat) (l : Bs) (a1 a2 : Nat) (c1 c2 : List Tok), c1.map kt = c2.map kt → ali (goF f l a1 c1) = ali (goF f l a2 c2)
  | 0, _, _, _, _, _, _ => rfl
  | f + 1, [], a1, a2, c1, c2, h => by
    rw [goF, goF]
    simp only [ali, List.map_append, h]; rfl
  | f + 1, c :: r, a1, a2, c1, c2, h => by
    rw [goF, goF]
    split
    · exact ali_goF f _ _ _ _ _ h
    split
    · exact ali_goF f _ _ _ _ _ h
    split
    · exact ali_goF f _ _ _ _ _ (by rw [List.map_append, List.map_append, h]; rfl)
    · rfl
theorem ali_lexS (l : Bs) (a1 a2 : Nat) (c1 c2 : List Tok) (h : c1.map kt = c2.map kt) : ali (lexS l a1 c1) = ali (lexS l a2 c2) := ali_goF _ _ _ _ _ _ h
theorem lexS_whites : ∀ (x l : Bs) (a : Nat) (acc : List Tok), x.all whiteB = true → lexS (x ++ l) a acc = lexS l (a + x.length) acc
  | [], _, _, _, _ => rfl
  | c :: r, l, a, acc, h => by
    rw [List.all_cons, Bool.and_eq_true] at h
    rw [List.cons_append, lexS_white h.1, lexS_whites r l (a + 1) acc h.2, List.length_cons]
    congr 1; omega

/-- A tail that changes nothing: no line ends in it, it begins with a space, a tab or a remark, and alone it is nothing. -/
structure Tail (x : Bs) : Prop where
  noline : x.all (fun c => !lineB c) = true
  head : x = [] ∨ ∃ c r, x = c :: r ∧ (c = 9 ∨ c = 32 ∨ c = 35)
  idle : ∀ a acc, ali (lexS x a acc) = ali (lexS [] a acc)
theorem Tail.nil : Tail [] := ⟨rfl, .inl rfl, fun _ _ => rfl⟩
theorem dropWhile_all (p : UInt8 → Bool) : ∀ x : Bs, x.all p = true → x.dropWhile p = []
  | [], _ => rfl
  | c :: r, h => by
    rw [List.all_cons, Bool.and_eq_true] at h
    rw [List.dropWhile_cons, if_pos h.1]; exact dropWhile_all p r h.2
theorem Tail.remark (x : Bs) (h : x.all (fun c => !lineB c) = true) : Tail (35 :: x) := by
  refine ⟨by rw [List.all_cons, h]; decide, .inr ⟨35, x, rfl, .inr (.inr rfl)⟩, fun a acc => ?_⟩
  rw [lexS_hash (by decide), dropWhile_all _ _ (by rw [List.all_cons, h]; decide)]
  exact ali_lexS _ _ _ _ _ rfl
theorem Tail.white {c : UInt8} {x : Bs} (hc : c = 9 ∨ c = 32) (h : Tail x) : Tail (c :: x) := by
  refine ⟨by rw [List.all_cons, h.noline]; rcases hc with rfl | rfl <;> decide, .inr ⟨c, x, rfl, by rcases hc with h | h; exact .inl h; exact .inr (.inl h)⟩, fun a acc => ?_⟩
  rw [lexS_white (by rcases hc with rfl | rfl <;> decide), h.idle]
  exact ali_lexS _ _ _ _ _ rfl

theorem takeWhile_tail (p : UInt8 → Bool) (hp : p 9 = false ∧ p 32 = false ∧ p 35 = false) {x : Bs} (h : Tail x) : ∀ l : Bs, (l ++ x).takeWhile p = l.takeWhile p
  | [] => by
    rcases h.head with rfl | ⟨c, r, rfl, hc⟩
    · rfl
    · rw [List.nil_append, List.takeWhile_cons, if_neg (by rcases hc with rfl | rfl | rfl <;> simp [hp])]; rfl
  | c :: r => by
    rw [List.cons_append, List.takeWhile_cons, List.takeWhile_cons, takeWhile_tail p hp h r]
theorem sign_tail {x : Bs} (h : Tail x) (c : UInt8) (r : Bs) : signB (c :: r ++ x) = signB (c :: r) := by
  have hl : ∀ t ∈ signsL, 1 ≤ t.length ∧ t.length ≤ 2 ∧ ∀ d ∈ t, d ≠ 9 ∧ d ≠ 32 ∧ d ≠ 35 := by decide
  have hp : ∀ t ∈ signsL, t.isPrefixOf (c :: r ++ x) = t.isPrefixOf (c :: r) := fun t ht => by
    obtain ⟨l1, l2, l3⟩ := hl t ht
    match t, l1, l2, l3 with
    | [a], _, _, _ => simp [List.isPrefixOf]
    | [a, b], _, _, l3 =>
      cases r with
      | cons d s => simp [List.isPrefixOf]
      | nil =>
        have hb := l3 b (by simp)
        rcases h.head with rfl | ⟨d, s, rfl, hd⟩
        · simp [List.isPrefixOf]
        · rcases hd with rfl | rfl | rfl <;> simp [List.isPrefixOf, hb]
  unfold signB
  congr 1
  have gen : ∀ L : List Bs, (∀ t ∈ L, t.isPrefixOf (c :: r ++ x) = t.isPrefixOf (c :: r)) → L.find? (fun t => t.isPrefixOf (c :: r ++ x)) = L.find? (fun t => t.isPrefixOf (c :: r)) := by
    intro L
    induction L with
    | nil => intro _; rfl
    | cons t L ih =>
      intro h
      rw [List.find?_cons, List.find?_cons, h t (by simp), ih (fun u hu => h u (by simp [hu]))]
  exact gen signsL hp
theorem next_tail {x : Bs} (h : Tail x) (c : UInt8) (r : Bs) : nextF (c :: r ++ x) = nextF (c :: r) := by
  have e1 := takeWhile_tail innerB (by decide) h (c :: r)
  have e2 := takeWhile_tail digitB (by decide) h (c :: r)
  have e3 := sign_tail h c r
  rw [List.cons_append] at *
  rw [nextF, nextF, e1, e2, e3]
theorem dropWhile_line {x : Bs} (h : Tail x) : ∀ l : Bs, (l ++ x).dropWhile (fun c => !lineB c) = l.dropWhile (fun c => !lineB c) ++ x ∨ ((l ++ x).dropWhile (fun c => !lineB c) = [] ∧ l.dropWhile (fun c => !lineB c) = [])
  | [] => .inr ⟨dropWhile_all _ _ h.noline, rfl⟩
  | c :: r => by
    rw [List.cons_append, List.dropWhile_cons, List.dropWhile_cons]
    split
    · exact dropWhile_line h r
    · exact .inl rfl

/-- A tail changes nothing but places. -/
theorem lex_tail {x : Bs} (h : Tail x) : ∀ (n : Nat) (l : Bs) (a : Nat) (acc : List Tok), l.length ≤ n → ali (lexS (l ++ x) a acc) = ali (lexS l a acc)
  | _, [], a, acc, _ => h.idle a acc
  | 0, _ :: _, _, _, hn => by simp at hn
  | n + 1, c :: r, a, acc, hn => by
    rw [List.length_cons] at hn
    by_cases hw : whiteB c = true
    · rw [List.cons_append, lexS_white hw, lexS_white hw]
      exact lex_tail h n r _ _ (by omega)
    by_cases hh : hashB c = true
    · rw [List.cons_append, lexS_hash hh, lexS_hash hh, ← List.cons_append]
      have hcl : lineB c = false := by
        simp only [hashB, beq_iff_eq] at hh
        simp [lineB, hh]
      rcases dropWhile_line h (c :: r) with e | ⟨e1, e2⟩
      · rw [e]
        have hlt : ((c :: r).dropWhile (fun x => !lineB x)).length ≤ n := by
          rw [List.dropWhile_cons, if_pos (by simp [hcl])]
          have := (List.dropWhile_sublist (fun x => !lineB x) (l := r)).length_le
          omega
        rw [lex_tail h n _ _ _ hlt]
        exact ali_lexS _ _ _ _ _ rfl
      · rw [e1, e2]
        exact ali_lexS _ _ _ _ _ rfl
    have hw' : whiteB c = false := by simpa using hw
    have hh' : hashB c = false := by simpa using hh
    have hnx := next_tail h c r
    by_cases hk : (nextF (c :: r)).2.2 = true
    · have hp := next_pos hk
      rw [List.cons_append, lexS_tok hw' hh' (by rw [← List.cons_append, hnx]; exact hk), lexS_tok hw' hh' hk, ← List.cons_append, hnx, List.drop_append_of_le_length hp.2]
      exact lex_tail h n _ _ _ (by rw [List.length_drop, List.length_cons]; omega)
    · have hk' : (nextF (c :: r)).2.2 = false := by simpa using hk
      rw [List.cons_append, lexS_bad hw' hh' (by rw [← List.cons_append, hnx]; exact hk'), lexS_bad hw' hh' hk']

/-- The source of LexRemarks. -/
def wrapped : Nat → Bs → Bs
  | 0, b => b
  | n + 1, b => 32 :: 9 :: 10 :: (wrapped n b ++ [9, 32])
def blanks : Nat → Bs → Bs
  | 0, x => x
  | n + 1, x => blanks n (9 :: 32 :: x)
def heads : Nat → Bs
  | 0 => []
  | n + 1 => 32 :: 9 :: 10 :: heads n
theorem wrapped_eq : ∀ (n : Nat) (b x : Bs), wrapped n b ++ x = heads n ++ (b ++ blanks n x)
  | 0, b, x => rfl
  | n + 1, b, x => by
    have := wrapped_eq n b (9 :: 32 :: x)
    rw [wrapped, heads, blanks]
    simp only [List.cons_append, List.append_assoc, List.nil_append]
    rw [this]
theorem heads_white : ∀ n : Nat, (heads n).all whiteB = true
  | 0 => rfl
  | n + 1 => by rw [heads, List.all_cons, List.all_cons, List.all_cons, heads_white n]; decide
theorem Tail.blanks : ∀ (n : Nat) (x : Bs), Tail x → Tail (blanks n x)
  | 0, _, h => h
  | n + 1, x, h => Tail.blanks n _ (Tail.white (.inl rfl) (Tail.white (.inr rfl) h))
theorem lex_remarks (b m : Bs) (n : Nat) (h : m.all (fun c => !lineB c) = true) : ali (lexS (wrapped n b ++ 35 :: m) 0 []) = ali (lexS b 0 []) := by
  rw [wrapped_eq, lexS_whites _ _ _ _ (heads_white n), lex_tail (Tail.blanks n _ (Tail.remark m h)) _ _ _ _ (Nat.le_refl _)]
  exact ali_lexS _ _ _ _ _ rfl
end Go.Chalk
