/- The laws' arguments: a slice of bools. -/
import Derived.Test.YtpacnaeckbcpjaaDoorTreeArg
import Derived.Test.YtpacnaeckbcpjaaDoorBools
namespace Go.Proofs.YtpacnaeckbcpjaaDoor
open Go.ChangeShapes Go.WideShapes Go.ChangeAt Go.RowKit Go.Chalk

theorem boolTypes : plainTypes Tryd.prog [25, 4] = true := by kernel_rfl
set_option maxRecDepth 100000 in
theorem bools_arg {H : Type} {enc : TypeId × Value → H} {W : World} {base : Nat} {v : Value} {d : DataW H} {ps : List MemPlace} {sp : Nat → Bool} {held : Bool} (hval : Value.okWide Tryd.prog W .any base 25 v) (h : DataW.Trod enc Tryd.prog W 0 sp held 25 v d ps) :
    ∃ l : List Bool, D.of d = .sl (dbools l) ∧ DAt W (· < W.heap.size) (.sl (dbools l)) [v] := by
  obtain ⟨fuel, hf⟩ := h
  obtain ⟨h1, h2, h3⟩ := trod_at boolTypes fuel _ _ _ _ (by simp) hf
  obtain ⟨l, hl⟩ := h2.slice_of Tryd.underlying25 (f := D.bool) (fun j y _ hy => hy.bool Tryd.underlying4)
  obtain ⟨a, n, cap, rfl⟩ := okWide_slice Tryd.underlying25 hval
  rw [hl] at h1
  exact ⟨l, hl, h1⟩

end Go.Proofs.YtpacnaeckbcpjaaDoor
