/- The encoding of a concatenation. -/
import Derived.Test.YtpacnaeckbcpjaaAll
namespace Go.Chalk
open Go.RowKit

theorem allGo_err : ∀ (l : List Tr) (nx : Int) (xs : List Int) (ls : List Lin), (allGo l nx xs ls).2.2.2 ≠ 0 → allGo l nx xs ls = ([], [], 0, (allGo l nx xs ls).2.2.2)
  | [], _, _, _, h => absurd rfl h
  | t :: r, nx, xs, ls, h => by
    rw [allGo] at h ⊢
    split at h
    · rename_i hg; rw [if_pos hg]
    · rename_i hg; rw [if_neg hg]; exact allGo_err r _ _ _ h

theorem allGo_app : ∀ (a b : List Tr) (nx : Int) (xs : List Int) (ls : List Lin), allGo (a ++ b) nx xs ls = if (allGo a nx xs ls).2.2.2 ≠ 0 then allGo a nx xs ls else allGo b (allGo a nx xs ls).2.2.1 (allGo a nx xs ls).1 (allGo a nx xs ls).2.1
  | [], b, nx, xs, ls => by rw [List.nil_append, allGo, if_neg (by simp)]
  | t :: a, b, nx, xs, ls => by
    rw [List.cons_append, allGo, allGo]
    by_cases hg : (gatesF t nx).2.2.2 ≠ 0
    · rw [if_pos hg, if_pos hg, if_pos hg]
    · rw [if_neg hg, if_neg hg]; exact allGo_app a b _ _ _

theorem allGo_acc : ∀ (l : List Tr) (nx : Int) (xs : List Int) (ls : List Lin), allGo l nx xs ls = if (allGo l nx [] []).2.2.2 ≠ 0 then ([], [], 0, (allGo l nx [] []).2.2.2) else (xs ++ (allGo l nx [] []).1, ls ++ (allGo l nx [] []).2.1, (allGo l nx [] []).2.2.1, 0)
  | [], nx, xs, ls => by rw [allGo, allGo, if_neg (by simp)]; simp
  | t :: r, nx, xs, ls => by
    rw [allGo, allGo]
    by_cases hg : (gatesF t nx).2.2.2 ≠ 0
    · rw [if_pos hg, if_pos hg, if_pos hg]
    · rw [if_neg hg, if_neg hg]
      rw [allGo_acc r _ (xs ++ _), allGo_acc r _ ([] ++ _)]
      by_cases hr : (allGo r (gatesF t nx).2.2.1 [] []).2.2.2 ≠ 0
      · rw [if_pos hr, if_pos hr, if_pos hr]
      · rw [if_neg hr, if_neg hr, if_neg (by simp)]; simp

theorem gatesF_next (t : Tr) (nx : Int) (h1 : 1 ≤ nx) (h2 : nx ≤ 65537) (h : (gatesF t nx).2.2.2 = 0) : 1 ≤ (gatesF t nx).2.2.1 ∧ (gatesF t nx).2.2.1 ≤ 65537 := by
  rcases gatesF_cases t nx h1 h2 with ⟨hc, g⟩ | ⟨hc, _, g⟩ | ⟨hc, _, _, g⟩ | ⟨hc, _, hov, g⟩
  · rw [g] at h; exact absurd h hc
  · rw [g] at h; exact absurd h (by decide)
  · rw [g] at h; exact absurd h (by decide)
  · rw [g]
    have := litF_bound t nx (nx - 1) (checkE_ok hc).2.2.1 h1
    exact ⟨by simp only; omega, hov⟩
theorem allGo_next_range : ∀ (l : List Tr) (nx : Int) (xs : List Int) (ls : List Lin), 1 ≤ nx → nx ≤ 65537 → (allGo l nx xs ls).2.2.2 = 0 → 1 ≤ (allGo l nx xs ls).2.2.1 ∧ (allGo l nx xs ls).2.2.1 ≤ 65537
  | [], nx, _, _, h1, h2, _ => ⟨h1, h2⟩
  | t :: r, nx, xs, ls, h1, h2, h => by
    rw [allGo] at h ⊢
    by_cases hg : (gatesF t nx).2.2.2 ≠ 0
    · rw [if_pos hg] at h; exact absurd h hg
    · rw [if_neg hg] at h ⊢
      have := gatesF_next t nx h1 h2 (by simpa using hg)
      exact allGo_next_range r _ _ _ this.1 this.2 h

/-- Where the first list has an error. -/
theorem allF_app_err (a b : List Tr) (next : Int) (h : (allF a next).2.2.2 ≠ 0) : allF (a ++ b) next = ([], [], 0, (allF a next).2.2.2) := by
  unfold allF at h ⊢
  by_cases h0 : next < 1 ∨ 65537 < next
  · rw [if_pos h0, if_pos h0]
  · rw [if_neg h0] at h
    rw [if_neg h0, if_neg h0, allGo_app, if_pos h]
    exact allGo_err _ _ _ _ h
/-- Where it has none. -/
theorem allF_app_ok (a b : List Tr) (next : Int) (h : (allF a next).2.2.2 = 0) : allF (a ++ b) next = if (allF b (allF a next).2.2.1).2.2.2 ≠ 0 then ([], [], 0, (allF b (allF a next).2.2.1).2.2.2) else ((allF a next).1 ++ (allF b (allF a next).2.2.1).1, (allF a next).2.1 ++ (allF b (allF a next).2.2.1).2.1, (allF b (allF a next).2.2.1).2.2.1, 0) := by
  by_cases h0 : next < 1 ∨ 65537 < next
  · unfold allF at h; rw [if_pos h0] at h; exact absurd h (by decide)
  · have ea : allF a next = allGo a next [] [] := by unfold allF; rw [if_neg h0]
    have eab : allF (a ++ b) next = allGo (a ++ b) next [] [] := by unfold allF; rw [if_neg h0]
    rw [ea] at h ⊢
    rw [eab]
    have hr := allGo_next_range a next [] [] (by omega) (by omega) h
    have eb : allF b (allGo a next [] []).2.2.1 = allGo b (allGo a next [] []).2.2.1 [] [] := by unfold allF; rw [if_neg (by omega)]
    rw [eb, allGo_app, if_neg (by simpa using h), allGo_acc b]

theorem gatesF_lins (t : Tr) (nx : Int) : (gatesF t nx).2.1.length ≤ 2 * t.size := by
  have := litF_lins t nx
  unfold gatesF
  repeat (split <;> try simp)
  omega
theorem allGo_len : ∀ (l : List Tr) (nx : Int) (xs : List Int) (ls : List Lin), (allGo l nx xs ls).1.length ≤ xs.length + l.length ∧ (allGo l nx xs ls).2.1.length ≤ ls.length + 2 * sizes l
  | [], nx, xs, ls => by simp [allGo, sizes]
  | t :: r, nx, xs, ls => by
    rw [allGo]
    split
    · simp
    · have h := allGo_len r (gatesF t nx).2.2.1 (xs ++ [(gatesF t nx).1]) (ls ++ (gatesF t nx).2.1)
      have h2 := gatesF_lins t nx
      simp only [List.length_append, List.length_cons, List.length_nil, sizes] at h ⊢
      omega
theorem allF_len (l : List Tr) (nx : Int) : (allF l nx).1.length ≤ l.length ∧ (allF l nx).2.1.length ≤ 2 * sizes l := by
  unfold allF
  split
  · simp
  · have := allGo_len l nx [] []
    simpa using this

end Go.Chalk
