/- The encoding of a list of trees, as a Lean function. -/
import Derived.Test.YtpacnaeckbcpjaaDoorGate
namespace Go.Chalk
open Go.RowKit

/-- The trees one after another: the literals, the constraints, the next variable, the error. -/
def allGo : List Tr → Int → List Int → List Lin → List Int × List Lin × Int × Int
  | [], nx, xs, ls => (xs, ls, nx, 0)
  | t :: r, nx, xs, ls => if (gatesF t nx).2.2.2 ≠ 0 then ([], [], 0, (gatesF t nx).2.2.2) else allGo r (gatesF t nx).2.2.1 (xs ++ [(gatesF t nx).1]) (ls ++ (gatesF t nx).2.1)
def allF (l : List Tr) (next : Int) : List Int × List Lin × Int × Int := if next < 1 ∨ 65537 < next then ([], [], 0, 1) else allGo l next [] []

theorem allGo_stop {l : List Tr} {j : Nat} (hj : j < l.length) {nx : Int} {xs : List Int} {ls : List Lin} {g : Int × List Lin × Int × Int} (hg : gatesF l[j] nx = g) (h : g.2.2.2 ≠ 0) : allGo (l.drop j) nx xs ls = ([], [], 0, g.2.2.2) := by
  rw [List.drop_eq_getElem_cons hj, allGo, hg, if_pos h]
theorem allGo_next {l : List Tr} {j : Nat} (hj : j < l.length) {nx : Int} {xs : List Int} {ls : List Lin} {g : Int × List Lin × Int × Int} (hg : gatesF l[j] nx = g) (h : g.2.2.2 = 0) : allGo (l.drop j) nx xs ls = allGo (l.drop (j + 1)) g.2.2.1 (xs ++ [g.1]) (ls ++ g.2.1) := by
  rw [List.drop_eq_getElem_cons hj, allGo, hg, if_neg (by simpa using h)]

theorem gatesF_cases (t : Tr) (nx : Int) (h1 : 1 ≤ nx) (h2 : nx ≤ 65537) :
    (checkE t (nx - 1) ≠ 0 ∧ gatesF t nx = (0, [], 0, checkE t (nx - 1))) ∨ (checkE t (nx - 1) = 0 ∧ wideB t = true ∧ gatesF t nx = (0, [], 0, 2)) ∨
    (checkE t (nx - 1) = 0 ∧ wideB t = false ∧ 65537 < (litF t nx).2.2 ∧ gatesF t nx = (0, [], 0, 2)) ∨
    (checkE t (nx - 1) = 0 ∧ wideB t = false ∧ (litF t nx).2.2 ≤ 65537 ∧ gatesF t nx = ((litF t nx).1, (litF t nx).2.1, (litF t nx).2.2, 0)) := by
  unfold gatesF
  rw [if_neg (by omega)]
  by_cases hc : checkE t (nx - 1) = 0
  · rw [if_neg (by simpa using hc)]
    cases hw : wideB t with
    | true => exact .inr (.inl ⟨hc, rfl, rfl⟩)
    | false =>
      by_cases hb : 65537 < (litF t nx).2.2
      · rw [if_pos hb]; exact .inr (.inr (.inl ⟨hc, rfl, hb, rfl⟩))
      · rw [if_neg hb]; exact .inr (.inr (.inr ⟨hc, rfl, by omega, rfl⟩))
  · exact .inl ⟨hc, by rw [if_pos hc]⟩

theorem allF_one (t : Tr) (next : Int) : allF [t] next = if (gatesF t next).2.2.2 ≠ 0 then ([], [], 0, (gatesF t next).2.2.2) else ([(gatesF t next).1], (gatesF t next).2.1, (gatesF t next).2.2.1, 0) := by
  unfold allF
  by_cases h : next < 1 ∨ 65537 < next
  · rw [if_pos h]
    have : gatesF t next = (0, [], 0, 1) := by unfold gatesF; rw [if_pos h]
    rw [this]; rfl
  · rw [if_neg h, allGo]
    split
    · rfl
    · rw [allGo]; simp
/-- An error comes with nothing. -/
theorem gatesF_err (t : Tr) (next : Int) (h : (gatesF t next).2.2.2 ≠ 0) : gatesF t next = (0, [], 0, (gatesF t next).2.2.2) := by
  by_cases h0 : next < 1 ∨ 65537 < next
  · have : gatesF t next = (0, [], 0, 1) := by unfold gatesF; rw [if_pos h0]
    rw [this]
  · rcases gatesF_cases t next (by omega) (by omega) with ⟨_, g⟩ | ⟨_, _, g⟩ | ⟨_, _, _, g⟩ | ⟨_, _, _, g⟩
    · rw [g]
    · rw [g]
    · rw [g]
    · rw [g] at h; exact absurd rfl h

end Go.Chalk
