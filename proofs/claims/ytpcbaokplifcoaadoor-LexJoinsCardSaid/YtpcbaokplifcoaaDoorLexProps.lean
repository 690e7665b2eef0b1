/- What the lexer's function answers: places, runs. -/
import Derived.Test.YtpcbaokplifcoaaDoorLexLaw
namespace Go.Chalk

/-- White space and remarks: none where something else stands; else whether a remark is open at the end. -/
def nothingG : Bool → Bs → Option Bool
  | rem, [] => some rem
  | rem, c :: r =>
    if lineB c then nothingG false r
    else if rem || hashB c then nothingG true r
    else if whiteB c then nothingG false r
    else none
theorem nothingG_append : ∀ (rem : Bool) (x y : Bs), nothingG rem (x ++ y) = (nothingG rem x).bind (fun m => nothingG m y)
  | rem, [], y => rfl
  | rem, c :: r, y => by
    rw [List.cons_append, nothingG, nothingG]
    split
    · exact nothingG_append _ r y
    split
    · exact nothingG_append _ r y
    split
    · exact nothingG_append _ r y
    · rfl
theorem nothingG_remark : ∀ (x : Bs), x.all (fun c => !lineB c) = true → nothingG true x = some true
  | [], _ => rfl
  | c :: r, h => by
    rw [List.all_cons, Bool.and_eq_true] at h
    rw [nothingG, if_neg (by simpa using h.1), if_pos (by simp)]
    exact nothingG_remark r h.2
theorem takeWhile_all (p : UInt8 → Bool) : ∀ l : Bs, (l.takeWhile p).all p = true
  | [] => rfl
  | c :: r => by
    rw [List.takeWhile_cons]
    split
    · rename_i h; rw [List.all_cons, h, takeWhile_all p r]; rfl
    · rfl
theorem dropWhile_head (p : UInt8 → Bool) : ∀ l : Bs, l.dropWhile p = [] ∨ ∃ c r, l.dropWhile p = c :: r ∧ p c = false
  | [] => .inl rfl
  | c :: r => by
    rw [List.dropWhile_cons]
    split
    · exact dropWhile_head p r
    · rename_i h; exact .inr ⟨c, r, rfl, by simpa using h⟩

theorem drop_takeWhile (p : UInt8 → Bool) : ∀ l : Bs, l.drop (l.takeWhile p).length = l.dropWhile p
  | [] => rfl
  | c :: r => by
    rw [List.takeWhile_cons, List.dropWhile_cons]
    split
    · rw [List.length_cons, List.drop_succ_cons]; exact drop_takeWhile p r
    · rfl
/-- The tokens lie in b at their places, from e on; between them is nothing. -/
def placesB (b : Bs) : List Tok → Nat → Bool
  | [], e => e == b.length
  | t :: r, e => decide (e ≤ t.at_) && decide (t.at_ + t.text.length ≤ b.length) && ((b.drop t.at_).take t.text.length == t.text) && (nothingG false ((b.drop e).take (t.at_ - e))).isSome && placesB b r (t.at_ + t.text.length)

theorem next_prefix {l : Bs} (h : (nextF l).2.2 = true) : l.take (nextF l).2.1.length = (nextF l).2.1 := by
  cases l with
  | nil => simp [nextF] at h
  | cons c r =>
    rw [nextF] at h ⊢
    split
    · exact List.prefix_iff_eq_take.1 (List.takeWhile_prefix _) |>.symm
    · rename_i hs
      split
      · exact List.prefix_iff_eq_take.1 (List.takeWhile_prefix _) |>.symm
      · rename_i hd
        rw [if_neg hs, if_neg hd] at h
        simp only at h ⊢
        simp only [Bool.not_eq_true', List.isEmpty_eq_false_iff] at h
        unfold signB at h ⊢
        cases hf : signsL.find? (fun s => s.isPrefixOf (c :: r)) with
        | none => simp [hf] at h
        | some s =>
          have := List.find?_some hf
          simp only [Option.getD_some]
          exact (List.prefix_iff_eq_take.1 (List.isPrefixOf_iff_prefix.1 this)).symm

theorem goF_places (b : Bs) : ∀ (f : Nat) (l : Bs) (at_ e : Nat) (acc res : List Tok) (rem : Bool) (x : Nat), l.length < f → b.drop at_ = l → at_ + l.length = b.length → e ≤ at_ → nothingG false ((b.drop e).take (at_ - e)) = some rem → (rem = true → l = [] ∨ ∃ c r, l = c :: r ∧ lineB c = true) →
    goF f l at_ acc = (res, x, 0) → ∃ toks, res = acc ++ toks ∧ placesB b toks e = true ∧ toks ≠ []
  | 0, _, _, _, _, _, _, _, h, _, _, _, _, _, _ => by omega
  | f + 1, [], at_, e, acc, res, rem, x, hf, hd, hl, he, hg, hr, h => by
    rw [goF] at h
    simp only [Prod.mk.injEq] at h
    simp only [List.length_nil, Nat.add_zero] at hl
    refine ⟨[⟨4, [], at_⟩], h.1.symm, ?_, by simp⟩
    subst hl
    simp [placesB, he, hg]
  | f + 1, c :: r, at_, e, acc, res, rem, x, hf, hd, hl, he, hg, hr, h => by
    simp only [List.length_cons] at hf hl
    have hdr : b.drop (at_ + 1) = r := by rw [← List.drop_drop, hd]; rfl
    -- the gap grows by what is passed over
    have gap : ∀ n, n ≤ (c :: r).length → (b.drop e).take (at_ + n - e) = (b.drop e).take (at_ - e) ++ (c :: r).take n := fun n hn => by
      rw [show at_ + n - e = (at_ - e) + n from by omega, List.take_add, List.drop_drop, show e + (at_ - e) = at_ from by omega, hd]
    rw [goF] at h
    by_cases hw : whiteB c = true
    · rw [if_pos hw] at h
      have hns : nothingG rem [c] = some false := by
        rw [nothingG, nothingG, nothingG]
        by_cases hlc : lineB c = true
        · rw [if_pos hlc]
        · have hrem : rem = false := by
            cases rem
            · rfl
            · rcases hr rfl with h0 | ⟨c', r', h0, h1⟩
              · cases h0
              · simp only [List.cons.injEq] at h0; rw [← h0.1] at h1; exact absurd h1 hlc
          have hh : hashB c = false := by
            simp only [whiteB, Bool.or_eq_true, beq_iff_eq] at hw
            simp only [hashB, beq_eq_false_iff_ne]; omega
          rw [if_neg hlc, hrem, hh, if_neg (by simp), if_pos hw]
      refine goF_places b f r (at_ + 1) e acc res false x (by omega) hdr (by omega) (by omega) ?_ (by simp) h
      rw [gap 1 (by simp), nothingG_append, hg]
      simpa using hns
    · rw [if_neg hw] at h
      have hrem : rem = false := by
        cases rem
        · rfl
        · rcases hr rfl with h0 | ⟨c', r', h0, h1⟩
          · cases h0
          · simp only [List.cons.injEq] at h0
            rw [← h0.1] at h1
            simp only [lineB, beq_iff_eq] at h1
            simp [whiteB, h1] at hw
      by_cases hh : hashB c = true
      · rw [if_pos hh] at h
        have htw := List.takeWhile_append_dropWhile (p := fun x => !lineB x) (l := c :: r)
        have hlen : ((c :: r).takeWhile (fun x => !lineB x)).length + ((c :: r).dropWhile (fun x => !lineB x)).length = r.length + 1 := by
          rw [← List.length_append, htw, List.length_cons]
        have hcl : lineB c = false := by
          simp only [hashB, beq_iff_eq] at hh
          simp [lineB, hh]
        have hpos : 0 < ((c :: r).takeWhile (fun x => !lineB x)).length := by
          rw [List.takeWhile_cons, if_pos (by simp [hcl])]; simp
        have htk : (c :: r).take ((c :: r).takeWhile (fun x => !lineB x)).length = (c :: r).takeWhile (fun x => !lineB x) := (List.prefix_iff_eq_take.1 (List.takeWhile_prefix _)).symm
        refine goF_places b f _ (at_ + ((c :: r).takeWhile (fun x => !lineB x)).length) e acc res true x (by omega) ?_ (by omega) (by omega) ?_ (fun _ => ?_) h
        · rw [← List.drop_drop, hd, drop_takeWhile]
        · rw [gap _ (by rw [List.length_cons]; omega), nothingG_append, hg, htk, hrem]
          rw [List.takeWhile_cons, if_pos (by simp [hcl])]
          show nothingG false (c :: _) = _
          rw [nothingG, if_neg (by simp [hcl]), if_pos (by simp [hh])]
          exact nothingG_remark _ (takeWhile_all _ _)
        · rcases dropWhile_head (fun x => !lineB x) (c :: r) with h0 | ⟨c', r', h0, h1⟩
          · exact .inl h0
          · exact .inr ⟨c', r', h0, by simpa using h1⟩
      · rw [if_neg hh] at h
        by_cases hn : (nextF (c :: r)).2.2 = true
        · rw [if_pos hn] at h
          have hp := next_pos hn
          have hpre := next_prefix hn
          rw [List.length_cons] at hp
          obtain ⟨toks, h1, h2, h3⟩ := goF_places b f _ (at_ + (nextF (c :: r)).2.1.length) (at_ + (nextF (c :: r)).2.1.length) _ res false x (by rw [List.length_drop, List.length_cons]; omega) (by rw [← List.drop_drop, hd]) (by rw [List.length_drop, List.length_cons]; omega) (Nat.le_refl _) (by simp [nothingG]) (by simp) h
          refine ⟨⟨(nextF (c :: r)).1, (nextF (c :: r)).2.1, at_⟩ :: toks, by rw [h1]; simp, ?_, by simp⟩
          rw [placesB, h2, hg, hd, hpre]
          simp [he]
          omega
        · rw [if_neg hn] at h
          simp at h

/-- The places of a source's tokens. -/
theorem lexS_places (b : Bs) {res : List Tok} {x : Nat} (h : lexS b 0 [] = (res, x, 0)) : placesB b res 0 = true ∧ res ≠ [] := by
  obtain ⟨toks, h1, h2, h3⟩ := goF_places b (b.length + 1) b 0 0 [] res false x (by omega) rfl (by omega) (Nat.le_refl _) rfl (by simp) h
  rw [List.nil_append] at h1
  rw [h1]; exact ⟨h2, h3⟩
/-- What an answer is: tokens and no error, or no tokens and an error's place. -/
theorem goF_shape : ∀ (f : Nat) (l : Bs) (at_ : Nat) (acc : List Tok), l.length < f → ((goF f l at_ acc).2.2 = 0 ∧ (goF f l at_ acc).2.1 = 0) ∨ ((goF f l at_ acc).1 = [] ∧ (goF f l at_ acc).2.2 = 50 ∧ at_ ≤ (goF f l at_ acc).2.1 ∧ (goF f l at_ acc).2.1 < at_ + l.length)
  | 0, _, _, _, h => by omega
  | f + 1, [], at_, acc, _ => by rw [goF]; exact .inl ⟨rfl, rfl⟩
  | f + 1, c :: r, at_, acc, hf => by
    simp only [List.length_cons] at hf ⊢
    rw [goF]
    split
    · rcases goF_shape f r (at_ + 1) acc (by omega) with h | ⟨h1, h2, h3, h4⟩
      · exact .inl h
      · exact .inr ⟨h1, h2, by omega, by omega⟩
    split
    · rename_i hw hh
      have htw := List.takeWhile_append_dropWhile (p := fun x => !lineB x) (l := c :: r)
      have hlen : ((c :: r).takeWhile (fun x => !lineB x)).length + ((c :: r).dropWhile (fun x => !lineB x)).length = r.length + 1 := by
        rw [← List.length_append, htw, List.length_cons]
      have hcl : lineB c = false := by
        simp only [hashB, beq_iff_eq] at hh
        simp [lineB, hh]
      have hpos : 0 < ((c :: r).takeWhile (fun x => !lineB x)).length := by
        rw [List.takeWhile_cons, if_pos (by simp [hcl])]; simp
      rcases goF_shape f ((c :: r).dropWhile (fun x => !lineB x)) (at_ + ((c :: r).takeWhile (fun x => !lineB x)).length) acc (by omega) with h | ⟨h1, h2, h3, h4⟩
      · exact .inl h
      · exact .inr ⟨h1, h2, by omega, by omega⟩
    split
    · rename_i hn
      have hp := next_pos hn
      rw [List.length_cons] at hp
      have hld : ((c :: r).drop (nextF (c :: r)).2.1.length).length = r.length + 1 - (nextF (c :: r)).2.1.length := by rw [List.length_drop, List.length_cons]
      rcases goF_shape f ((c :: r).drop (nextF (c :: r)).2.1.length) (at_ + (nextF (c :: r)).2.1.length) (acc ++ [⟨(nextF (c :: r)).1, (nextF (c :: r)).2.1, at_⟩]) (by rw [hld]; omega) with h | ⟨h1, h2, h3, h4⟩
      · exact .inl h
      · rw [hld] at h4
        exact .inr ⟨h1, h2, by omega, by omega⟩
    · exact .inr ⟨rfl, rfl, Nat.le_refl _, by simp⟩
end Go.Chalk
