/- What the constraints of an encoding say: each assignment of the old variables has just one extension, and the literal has the tree's value. -/
import Derived.Test.YtpacnaeckbcpjaaDoorKept
import Derived.Test.YtpacnaeckbcpjaaDoorFitsLaw
namespace Go.Chalk
open Go.RowKit

/-- How many of the literals are true. -/
def cntL (b : List Bool) : List Int → Nat
  | [] => 0
  | y :: r => (if truthF y b then 1 else 0) + cntL b r
theorem cntL_le (b : List Bool) : ∀ ls : List Int, cntL b ls ≤ ls.length
  | [] => Nat.le_refl _
  | y :: r => by have := cntL_le b r; rw [cntL, List.length_cons]; split <;> omega
theorem sumB_ones (b : List Bool) : ∀ ls : List Int, sumB b (ls.map (fun _ => 1)) ls = cntL b ls
  | [] => rfl
  | y :: r => by
    rw [List.map_cons, sumB, sumB_ones b r, cntL]
    split <;> simp
theorem truthF_not (y : Int) (h : y ≠ 0) (b : List Bool) : truthF (-y) b = !truthF y b := by
  by_cases h0 : 0 < y
  · exact truthF_neg y h0 b
  · have := truthF_neg (-y) (by omega) b
    rw [Int.neg_neg] at this
    rw [this, Bool.not_not]
theorem sumB_nots (b : List Bool) : ∀ ls : List Int, (∀ y ∈ ls, y ≠ 0) → sumB b (ls.map (fun _ => 1)) (ls.map (- ·)) = (ls.length : Int) - cntL b ls
  | [], _ => rfl
  | y :: r, h => by
    rw [List.map_cons, List.map_cons, sumB, sumB_nots b r (fun z hz => h z (by simp [hz])), cntL, truthF_not y (h y (by simp)), List.length_cons]
    cases truthF y b <;> simp <;> omega

/-- The defining constraints of x for 'at least k of ls' hold just where x has that value. -/
theorem sumsF_iff (b : List Bool) (x k : Int) (ls : List Int) (hx : 1 ≤ x) (hl : ∀ y ∈ ls, y ≠ 0) : linsV (sumsF x k ls) b = (truthF x b == decide (k ≤ (cntL b ls : Int))) := by
  have hn := truthF_not x (by omega) b
  have hc := cntL_le b ls
  unfold sumsF
  by_cases h1 : k ≤ 0
  · rw [if_pos h1]
    have e : decide (k ≤ (cntL b ls : Int)) = true := by simp; omega
    rw [e]
    cases hx' : truthF x b <;> simp [linsV, linV, sumB, hx']
  · rw [if_neg h1]
    by_cases h2 : (ls.length : Int) < k
    · rw [if_pos h2]
      have e : decide (k ≤ (cntL b ls : Int)) = false := by simp; omega
      rw [e]
      cases hx' : truthF x b <;> simp [linsV, linV, sumB, hx', hn]
    · rw [if_neg h2]
      simp only [linsV, List.all_cons, List.all_nil, Bool.and_true, linV, sumB, sumB_ones, sumB_nots b ls hl, hn]
      cases hx' : truthF x b
      · by_cases h3 : k ≤ (cntL b ls : Int)
        · simp [h3] <;> omega
        · simp [h3] <;> omega
      · by_cases h3 : k ≤ (cntL b ls : Int)
        · simp [h3] <;> omega
        · simp [h3] <;> omega

mutual
/-- The values of the new variables. -/
def newsV : Tr → List Bool → List Bool
  | .mk kind v k l, a => if kind = 2 then [] else if kind = 3 then newsVs l a else newsVs l a ++ [valT (.mk kind v k l) a]
def newsVs : List Tr → List Bool → List Bool
  | [], _ => []
  | t :: r, a => newsV t a ++ newsVs r a
end

theorem valB_append {a e : List Bool} {n : Nat} (h : n < a.length) : valB (a ++ e) n = valB a n := by
  unfold valB
  rw [List.getD_eq_getElem?_getD, List.getD_eq_getElem?_getD, List.getElem?_append_left h]
mutual
theorem valT_append : ∀ (t : Tr) (N : Int) (a e : List Bool), mayB t N = true → N < a.length → valT t (a ++ e) = valT t a
  | .mk kind v k l, N, a, e, h, hN => by
    rw [mayB, Bool.and_eq_true] at h
    have hc := cntT_append l N a e h.2 hN
    rw [valT, valT, hc]
    by_cases h2 : kind = 2
    · have := nodeOk_true h.1
      have hv : 1 ≤ v ∧ v ≤ N := by
        rcases this with hc | hc | hc | hc | hc | hc | hc <;> omega
      rw [valB_append (by omega)]
    · simp [h2]
theorem cntT_append : ∀ (l : List Tr) (N : Int) (a e : List Bool), mayAll l N = true → N < a.length → cntT l (a ++ e) = cntT l a
  | [], _, _, _, _, _ => rfl
  | t :: r, N, a, e, h, hN => by
    rw [mayAll, Bool.and_eq_true] at h
    rw [cntT, cntT, valT_append t N a e h.1 hN, cntT_append r N a e h.2 hN]
end
mutual
theorem newsV_append : ∀ (t : Tr) (N : Int) (a e : List Bool), mayB t N = true → N < a.length → newsV t (a ++ e) = newsV t a
  | .mk kind v k l, N, a, e, h, hN => by
    have hv := valT_append (.mk kind v k l) N a e h hN
    rw [mayB, Bool.and_eq_true] at h
    rw [newsV, newsV, newsVs_append l N a e h.2 hN, hv]
theorem newsVs_append : ∀ (l : List Tr) (N : Int) (a e : List Bool), mayAll l N = true → N < a.length → newsVs l (a ++ e) = newsVs l a
  | [], _, _, _, _, _ => rfl
  | t :: r, N, a, e, h, hN => by
    rw [mayAll, Bool.and_eq_true] at h
    rw [newsVs, newsVs, newsV_append t N a e h.1 hN, newsVs_append r N a e h.2 hN]
end
mutual
theorem newsV_length : ∀ (t : Tr) (a : List Bool) (nx N : Int), mayB t N = true → ((newsV t a).length : Int) = (litF t nx).2.2 - nx
  | .mk kind v k l, a, nx, N, h => by
    rw [mayB, Bool.and_eq_true] at h
    have := newsVs_length l a nx N h.2
    rw [newsV, litF]
    by_cases h2 : kind = 2
    · rw [if_pos h2, if_pos h2]; simp
    · rw [if_neg h2, if_neg h2]
      by_cases h3 : kind = 3
      · rw [if_pos h3, if_pos h3]; exact this
      · rw [if_neg h3, if_neg h3, List.length_append]; simp only [List.length_cons, List.length_nil]; omega
theorem newsVs_length : ∀ (l : List Tr) (a : List Bool) (nx N : Int), mayAll l N = true → ((newsVs l a).length : Int) = (litsF l nx).2.2 - nx
  | [], _, _, _, _ => by simp [newsVs, litsF]
  | t :: r, a, nx, N, h => by
    rw [mayAll, Bool.and_eq_true] at h
    have h1 := newsV_length t a nx N h.1
    have h2 := newsVs_length r a (litF t nx).2.2 N h.2
    rw [newsVs, litsF, List.length_append]; simp only; omega
end
theorem linsV_append (x y : List Lin) (b : List Bool) : linsV (x ++ y) b = (linsV x b && linsV y b) := by unfold linsV; rw [List.all_append]

theorem truthF_append {x : Int} {a e : List Bool} (h : x < a.length) (h2 : -x < a.length) : truthF x (a ++ e) = truthF x a := by
  unfold truthF
  split
  · rw [valB_append (by omega)]
  · rw [valB_append (by omega)]
theorem cntL_append {a e : List Bool} : ∀ (ls : List Int), (∀ y ∈ ls, y < a.length ∧ -y < a.length) → cntL (a ++ e) ls = cntL a ls
  | [], _ => rfl
  | y :: r, h => by
    have h1 := h y (by simp)
    rw [cntL, cntL, truthF_append h1.1 h1.2, cntL_append r (fun z hz => h z (by simp [hz]))]

theorem split_eq {c1 c2 n1 n2 : List Bool} (h : c1.length = n1.length) : ((c1 ++ c2 : List Bool) == n1 ++ n2) = ((c1 == n1) && (c2 == n2)) := by
  rw [Bool.eq_iff_iff]
  simp only [beq_iff_eq, Bool.and_eq_true]
  exact ⟨fun e => List.append_inj e h, fun ⟨e1, e2⟩ => by rw [e1, e2]⟩
theorem ite_inj {p q : Bool} (h : (if p = true then 1 else 0 : Nat) = if q = true then 1 else 0) : p = q := by cases p <;> cases q <;> simp at h ⊢
theorem not_ite (q : Bool) : (!q) = decide ((if q = true then 1 else 0 : Nat) = 0) := by cases q <;> rfl

mutual
/-- The constraints of a tree, behind the assignment a: c is their one solution. -/
theorem litF_main : ∀ (t : Tr) (N : Int) (a c d : List Bool), mayB t N = true → N < a.length → 1 ≤ a.length → c.length = (newsV t a).length →
    linsV (litF t a.length).2.1 (a ++ (c ++ d)) = (c == newsV t a) ∧ truthF (litF t a.length).1 (a ++ (newsV t a ++ d)) = valT t a
  | .mk kind v k l, N, a, c, d, h, hN, ha, hc => by
    have hm := h
    rw [mayB, Bool.and_eq_true] at h
    have hnode := nodeOk_true h.1
    have hlb := litsF_bound l a.length N h.2 (by omega)
    have hlen := newsVs_length l a a.length N h.2
    have hll := litsF_length l a.length
    by_cases h2 : kind = 2
    · rw [newsV, if_pos h2] at hc ⊢
      rw [litF, if_pos h2]
      have hc0 : c = [] := List.length_eq_zero_iff.1 hc
      subst hc0 h2
      have hv : 1 ≤ v ∧ v ≤ N := by rcases hnode with hc | hc | hc | hc | hc | hc | hc <;> omega
      refine ⟨by simp [linsV], ?_⟩
      rw [valT, if_neg (by omega), if_pos rfl, truthF_append (by omega) (by omega)]
      unfold truthF
      rw [if_neg (by omega), decide_eq_true (by omega), Bool.true_and]
    · by_cases h3 : kind = 3
      · have hl1 : l.length = 1 := by
          rcases hnode with hc | hc | hc | hc | hc | hc | hc <;> first | omega | (have := hc.2.2.2; simp at this; omega)
        rw [newsV, if_neg h2, if_pos h3] at hc ⊢
        rw [litF, if_neg h2, if_pos h3]
        subst h3
        have ih := litsF_main l N a c d h.2 hN ha hc
        refine ⟨ih.1, ?_⟩
        match l, hl1 with
        | [t0], _ =>
          have h0 := hlb.2.2 _ (by simp [litsF] : (litF t0 a.length).1 ∈ (litsF [t0] a.length).1)
          have ih2 := ih.2
          simp only [litsF, cntL, Nat.add_zero, cntT] at ih2 ⊢
          simp only [List.headD_cons]
          rw [truthF_not _ h0.1, valT, if_neg (by omega), if_neg (by omega), if_pos rfl]
          simp only [cntT, Nat.add_zero]
          rw [ite_inj ih2]; exact not_ite _
      · rw [newsV, if_neg h2, if_neg h3] at hc ⊢
        rw [litF, if_neg h2, if_neg h3]
        simp only [List.length_append, List.length_cons, List.length_nil] at hc
        obtain ⟨c1, z, rfl⟩ : ∃ c1 z, c = c1 ++ [z] := by
          have hne : c ≠ [] := fun e => by subst e; simp at hc
          exact ⟨c.dropLast, c.getLast hne, (List.dropLast_concat_getLast hne).symm⟩
        have hc1 : c1.length = (newsVs l a).length := by simp at hc; omega
        have ih := litsF_main l N a c1 ([z] ++ d) h.2 hN ha hc1
        -- the new variable
        have hxn : ((litsF l a.length).2.2).toNat = a.length + (newsVs l a).length := by omega
        have hx1 : 1 ≤ (litsF l a.length).2.2 := by omega
        have hval : ∀ (c1 : List Bool) (z : Bool) (d : List Bool), c1.length = (newsVs l a).length → truthF (litsF l a.length).2.2 (a ++ (c1 ++ [z] ++ d)) = z := fun c1 z d hc1 => by
          unfold truthF
          rw [if_neg (by omega), hxn]
          unfold valB
          rw [List.getD_eq_getElem?_getD, List.getElem?_append_right (by omega), List.append_assoc, List.getElem?_append_right (by omega)]
          simp [hc1]
        have hthr : ∀ (b : List Bool), cntL b (litsF l a.length).1 = cntT l a → decide (thrF kind v k l.length ≤ (cntL b (litsF l a.length).1 : Int)) = valT (.mk kind v k l) a := fun b hb => by
          rw [hb]
          have hcl := cntT_le a l
          rcases hnode with ⟨rfl, rfl, rfl, h4⟩ | ⟨rfl, rfl, rfl, h4⟩ | ⟨rfl, _⟩ | ⟨rfl, _⟩ | ⟨rfl, rfl, rfl⟩ | ⟨rfl, rfl, rfl⟩ | ⟨rfl, rfl, _, _⟩
          · have hl0 : l.length = 0 := by simp at h4; simp [h4]
            rw [thrF_10, valT, if_pos rfl]; simp; omega
          · rw [thrF_11, valT, if_pos rfl]; simp
          · exact absurd rfl h2
          · exact absurd rfl h3
          · rw [thrF_4, valT, if_neg (by omega), if_neg (by omega), if_neg (by omega), if_pos rfl]
            by_cases he : cntT l a = l.length
            · rw [decide_eq_true he]; simp; omega
            · rw [decide_eq_false he]; simp; omega
          · rw [thrF_5, valT, if_neg (by omega), if_neg (by omega), if_neg (by omega), if_neg (by omega), if_pos rfl]
            by_cases he : 0 < cntT l a
            · rw [decide_eq_true he]; simp; omega
            · rw [decide_eq_false he]; simp; omega
          · rw [thrF_6, valT, if_neg (by omega), if_neg (by omega), if_neg (by omega), if_neg (by omega), if_neg (by omega), if_pos rfl]
        refine ⟨?_, ?_⟩
        · rw [linsV_append, split_eq hc1]
          have e1 : a ++ (c1 ++ [z] ++ d) = a ++ (c1 ++ ([z] ++ d)) := by simp
          rw [e1, ih.1, ← e1]
          cases hcc : (c1 == newsVs l a) with
          | false => simp
          | true =>
            have hceq : c1 = newsVs l a := by simpa using hcc
            subst hceq
            rw [sumsF_iff _ _ _ _ hx1 (fun y hy => (hlb.2.2 y hy).1), hval _ _ _ hc1]
            have hcl := litsF_cnt l N a ([z] ++ d) h.2 hN ha
            rw [hthr _ (by rw [e1]; exact hcl)]
            simp only [Bool.true_and]
            cases z <;> cases valT (.mk kind v k l) a <;> rfl
        · exact hval _ _ _ rfl
/-- For a list of trees: the literals' values, counted. -/
theorem litsF_main : ∀ (l : List Tr) (N : Int) (a c d : List Bool), mayAll l N = true → N < a.length → 1 ≤ a.length → c.length = (newsVs l a).length →
    linsV (litsF l a.length).2.1 (a ++ (c ++ d)) = (c == newsVs l a) ∧ cntL (a ++ (newsVs l a ++ d)) (litsF l a.length).1 = cntT l a
  | [], _, a, c, d, _, _, _, hc => by
    have hc0 : c = [] := List.length_eq_zero_iff.1 (by simpa [newsVs] using hc)
    subst hc0
    simp [litsF, linsV, newsVs, cntL, cntT]
  | t :: r, N, a, c, d, h, hN, ha, hc => by
    rw [mayAll, Bool.and_eq_true] at h
    rw [newsVs] at hc ⊢
    rw [List.length_append] at hc
    have hl1 := newsV_length t a a.length N h.1
    have hb1 := litF_bound t a.length N h.1 (by omega)
    have hlen : ((a ++ newsV t a).length : Int) = (litF t a.length).2.2 := by rw [List.length_append]; omega
    have hN2 : N < ((a ++ newsV t a).length : Int) := by rw [List.length_append]; omega
    have e2 := newsVs_append r N a (newsV t a) h.2 hN
    have e3 := cntT_append r N a (newsV t a) h.2 hN
    -- c in two
    obtain ⟨c1, c2, rfl, hc1⟩ : ∃ c1 c2, c = c1 ++ c2 ∧ c1.length = (newsV t a).length := ⟨c.take (newsV t a).length, c.drop (newsV t a).length, (List.take_append_drop _ _).symm, by rw [List.length_take]; omega⟩
    have hc2 : c2.length = (newsVs r a).length := by rw [List.length_append] at hc; omega
    have ih1 := litF_main t N a c1 (c2 ++ d) h.1 hN ha hc1
    have ih1' := litF_main t N a (newsV t a) (newsVs r a ++ d) h.1 hN ha rfl
    have ih2 := litsF_main r N (a ++ newsV t a) c2 d h.2 hN2 (by rw [List.length_append]; omega) (by rw [e2]; exact hc2)
    rw [hlen, e2, e3] at ih2
    rw [litsF]
    refine ⟨?_, ?_⟩
    · rw [linsV_append, split_eq hc1]
      have e1 : a ++ (c1 ++ c2 ++ d) = a ++ (c1 ++ (c2 ++ d)) := by simp
      rw [e1, ih1.1]
      cases hcc : (c1 == newsV t a) with
      | false => simp
      | true =>
        have hceq : c1 = newsV t a := by simpa using hcc
        subst hceq
        have e4 : a ++ (newsV t a ++ (c2 ++ d)) = a ++ newsV t a ++ (c2 ++ d) := by simp
        rw [e4, ih2.1]
    · have e4 : a ++ (newsV t a ++ newsVs r a ++ d) = a ++ (newsV t a ++ (newsVs r a ++ d)) := by simp
      have e5 : a ++ (newsV t a ++ (newsVs r a ++ d)) = a ++ newsV t a ++ (newsVs r a ++ d) := by simp
      rw [cntL, cntT, e4, ih1'.2, e5, ih2.2]
theorem litsF_cnt : ∀ (l : List Tr) (N : Int) (a d : List Bool), mayAll l N = true → N < a.length → 1 ≤ a.length → cntL (a ++ (newsVs l a ++ d)) (litsF l a.length).1 = cntT l a
  | l, N, a, d, h, hN, ha => (litsF_main l N a (newsVs l a) d h hN ha rfl).2
end

mutual
theorem wide_small : ∀ t : Tr, t.size ≤ 4095 → wideB t = false
  | .mk _ _ _ l, h => by
    rw [Tr.size] at h
    have := length_le_sizes l
    rw [wideB, wideAny_small l (by omega)]; simp; omega
theorem wideAny_small : ∀ l : List Tr, sizes l ≤ 4095 → wideAny l = false
  | [], _ => rfl
  | t :: r, h => by rw [sizes] at h; rw [wideAny, wide_small t (by omega), wideAny_small r (by omega)]; rfl
end

end Go.Chalk
