/- The constraints of an encoding are well-formed; how many variables it takes. -/
import Derived.Test.YtpacnaeckbcpjaaDoorLinCheck
import Derived.Test.YtpacnaeckbcpjaaDoorAll
namespace Go.Chalk
open Go.RowKit

theorem LinOk.mono {s : Lin} {n m : Int} (h : LinOk s n) (hm : n ≤ m) : LinOk s m :=
  ⟨h.len, h.most, h.least, h.cs, fun l hl => by have := h.ls l hl; omega⟩

theorem sumsF_ok (x k : Int) (ls : List Int) (hx : 1 ≤ x) (hlen : ls.length ≤ 4095) (hl : ∀ y ∈ ls, y ≠ 0 ∧ y ≤ x ∧ -x ≤ y) : ∀ s ∈ sumsF x k ls, LinOk s x := by
  unfold sumsF
  intro s hs
  split at hs
  · simp at hs; subst hs
    exact ⟨rfl, by simp, by simp only; omega, fun c hc => by simp at hc; omega, fun l hl => by simp at hl; omega⟩
  · split at hs
    · simp at hs; subst hs
      exact ⟨rfl, by simp, by simp only; omega, fun c hc => by simp at hc; omega, fun l hl => by simp at hl; omega⟩
    · rcases List.mem_cons.1 hs with rfl | hs
      · refine ⟨by simp, by simp; omega, by simp only; omega, fun c hc => ?_, fun l hl' => ?_⟩
        · simp only [List.mem_cons, List.mem_map] at hc
          rcases hc with rfl | ⟨_, _, rfl⟩ <;> omega
        · rcases List.mem_cons.1 hl' with rfl | hl'
          · omega
          · exact hl l hl'
      · simp at hs; subst hs
        refine ⟨by simp, by simp; omega, by simp only; omega, fun c hc => ?_, fun l hl' => ?_⟩
        · simp only [List.mem_cons, List.mem_map] at hc
          rcases hc with rfl | ⟨_, _, rfl⟩ <;> omega
        · simp only [List.mem_cons, List.mem_map] at hl'
          rcases hl' with rfl | ⟨y, hy, rfl⟩
          · omega
          · have := hl y hy; omega

mutual
theorem litF_ok : ∀ (t : Tr) (nx N : Int), mayB t N = true → 1 ≤ nx → N < nx → wideB t = false → ∀ s ∈ (litF t nx).2.1, LinOk s ((litF t nx).2.2 - 1)
  | .mk kind v k l, nx, N, h, hnx, hN, hw => by
    rw [mayB, Bool.and_eq_true] at h
    rw [wideB, Bool.or_eq_false_iff] at hw
    have hwl : l.length ≤ 4095 := by have := hw.1; simp at this; omega
    have ih := litsF_ok l nx N h.2 hnx hN hw.2
    have hb := litsF_bound l nx N h.2 hnx
    have hlen := litsF_length l nx
    rw [litF]
    split
    · simp
    · split
      · exact ih
      · intro s hs
        simp only [List.mem_append] at hs ⊢
        rcases hs with hs | hs
        · exact (ih s hs).mono (by omega)
        · refine (sumsF_ok _ _ _ (by omega) (by omega) (fun y hy => ?_) s hs).mono (by omega)
          have := hb.2.2 y hy
          omega
theorem litsF_ok : ∀ (l : List Tr) (nx N : Int), mayAll l N = true → 1 ≤ nx → N < nx → wideAny l = false → ∀ s ∈ (litsF l nx).2.1, LinOk s ((litsF l nx).2.2 - 1)
  | [], nx, N, _, _, _, _ => by simp [litsF]
  | t :: r, nx, N, h, hnx, hN, hw => by
    rw [mayAll, Bool.and_eq_true] at h
    rw [wideAny, Bool.or_eq_false_iff] at hw
    have h1 := litF_ok t nx N h.1 hnx hN hw.1
    have hb := litF_bound t nx N h.1 hnx
    have h2 := litsF_ok r (litF t nx).2.2 N h.2 (by omega) (by omega) hw.2
    have hb2 := litsF_bound r (litF t nx).2.2 N h.2 (by omega)
    rw [litsF]
    intro s hs
    simp only [List.mem_append] at hs ⊢
    rcases hs with hs | hs
    · exact (h1 s hs).mono (by omega)
    · exact h2 s hs
end

mutual
/-- How many new variables. -/
def newsF : Tr → Nat
  | .mk kind _ _ l => newsFs l + if kind ≠ 2 ∧ kind ≠ 3 then 1 else 0
def newsFs : List Tr → Nat
  | [] => 0
  | t :: r => newsF t + newsFs r
end
theorem newsFs_take_succ : ∀ (l : List Tr) (j : Nat) (h : j < l.length), newsFs (l.take (j + 1)) = newsFs (l.take j) + newsF l[j]
  | t :: r, 0, _ => by simp [newsFs]
  | t :: r, j + 1, h => by simp only [List.take_succ_cons, newsFs, List.getElem_cons_succ]; rw [newsFs_take_succ r j (by simpa using h)]; omega
mutual
theorem newsF_le : ∀ t : Tr, newsF t ≤ t.size
  | .mk _ _ _ l => by have := newsFs_le l; rw [newsF, Tr.size]; split <;> omega
theorem newsFs_le : ∀ l : List Tr, newsFs l ≤ sizes l
  | [] => by simp [newsFs]
  | t :: r => by have := newsF_le t; have := newsFs_le r; rw [newsFs, sizes]; omega
end
theorem newsFs_take_le : ∀ (l : List Tr) (j : Nat), newsFs (l.take j) ≤ sizes l
  | l, j => Nat.le_trans (newsFs_le _) (sizes_take_le l j)
mutual
theorem litF_news : ∀ (t : Tr) (nx N : Int), mayB t N = true → (litF t nx).2.2 = nx + newsF t
  | .mk kind v k l, nx, N, h => by
    rw [mayB, Bool.and_eq_true] at h
    have hc := nodeOk_true h.1
    have ih := litsF_news l nx N h.2
    rw [litF, newsF]
    by_cases h2 : kind = 2
    · rw [if_pos h2, if_neg (by simp [h2])]
      have hl : l = [] := by
        rcases hc with hc | hc | hc | hc | hc | hc | hc <;> first | omega | (have := hc.2.2.2.2; simp at this; exact this)
      subst hl; simp [newsFs]
    · rw [if_neg h2]
      by_cases h3 : kind = 3
      · rw [if_pos h3, if_neg (by simp [h3])]; simp only; omega
      · rw [if_neg h3, if_pos ⟨h2, h3⟩]; simp only; omega
theorem litsF_news : ∀ (l : List Tr) (nx N : Int), mayAll l N = true → (litsF l nx).2.2 = nx + newsFs l
  | [], nx, _, _ => by simp [litsF, newsFs]
  | t :: r, nx, N, h => by
    rw [mayAll, Bool.and_eq_true] at h
    rw [litsF, newsFs]
    have h1 := litF_news t nx N h.1
    have h2 := litsF_news r (litF t nx).2.2 N h.2
    simp only; omega
end

end Go.Chalk
namespace Go.Proofs.YtpacnaeckbcpjaaDoor
open Go.RowKit Go.Chalk

end Go.Proofs.YtpacnaeckbcpjaaDoor
