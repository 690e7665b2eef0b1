/- The laws' arguments: a slice of bools. -/
import Derived.Test.YtpacnaeckbcpjaaTreeArg
import Derived.Test.YtpacnaeckbcpjaaBools
namespace Go.Proofs.Ytpacnaeckbcpjaa
open Go.ChangeShapes Go.WideShapes Go.ChangeAt Go.RowKit Go.Chalk

theorem boolTypes : plainTypes Try.prog [43, 4] = true := by kernel_rfl
set_option maxRecDepth 100000 in
theorem bools_arg {H : Type} {enc : TypeId × Value → H} {W : World} {base : Nat} {v : Value} {d : DataW H} {ps : List MemPlace} {sp : Nat → Bool} {held : Bool} (hval : Value.okWide Try.prog W .any base 43 v) (h : DataW.Trod enc Try.prog W 0 sp held 43 v d ps) :
    ∃ l : List Bool, D.of d = .sl (dbools l) ∧ DAt W (· < W.heap.size) (.sl (dbools l)) [v] := by
  obtain ⟨fuel, hf⟩ := h
  obtain ⟨h1, h2, h3⟩ := trod_at boolTypes fuel _ _ _ _ (by simp) hf
  obtain ⟨l, hl⟩ := h2.slice_of Try.underlying43 (f := D.bool) (fun j y _ hy => hy.bool Try.underlying4)
  obtain ⟨a, n, cap, rfl⟩ := okWide_slice Try.underlying43 hval
  rw [hl] at h1
  exact ⟨l, hl, h1⟩

end Go.Proofs.Ytpacnaeckbcpjaa
