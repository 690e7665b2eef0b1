/- The laws' arguments: a tree, a slice of trees, a slice of bools. -/
import Derived.Test.YtpacnaeckbcpjaaDoorRow
import Derived.Test.YtpacnaeckbcpjaaDoorTree
namespace Go.Proofs.YtpacnaeckbcpjaaDoor
open Go.ChangeShapes Go.WideShapes Go.ChangeAt Go.RowKit Go.Chalk

theorem treeTypes : plainTypes Tryd.prog [24, 22, 3] = true := by kernel_rfl
set_option maxRecDepth 100000 in
theorem treeFields : ∃ fs : Array Field, Tryd.prog.underlying 24 = some (.struct fs) ∧ fs.toList.map (·.type) = [3, 3, 3, 22] := ⟨_, Tryd.underlying24, rfl⟩


set_option maxRecDepth 100000 in
theorem tree_arg {H : Type} {enc : TypeId × Value → H} {W : World} {base : Nat} {v : Value} {d : DataW H} {ps : List MemPlace} {sp : Nat → Bool} {held : Bool} (hval : Value.okWide Tryd.prog W .any base 24 v) (h : DataW.Trod enc Tryd.prog W 0 sp held 24 v d ps) :
    ∃ t : Tr, D.of d = t.toD ∧ TreeV W (· < W.heap.size) t v := by
  obtain ⟨fuel, hf⟩ := h
  obtain ⟨h1, h2, h3⟩ := trod_at treeTypes fuel _ _ _ _ (by simp) hf
  obtain ⟨fs, hu, hts⟩ := treeFields
  obtain ⟨t, ht⟩ := Tr.of_fits hu hts Tryd.underlying22 Tryd.underlying3 _ _ h2
  obtain ⟨cs, rfl, _⟩ := okWide_struct hu hval
  rw [ht] at h1
  refine ⟨t, ht, ?_⟩
  have hl := DAt.length _ _ h1
  rw [Tr.width] at hl
  simp only [Value.cells] at h1 hl
  obtain ⟨l⟩ := cs
  match l, hl with
  | [c0, c1, c2, c3], _ => exact ⟨c0, c1, c2, c3, rfl, h1⟩

set_option maxRecDepth 100000 in
theorem trees_arg {H : Type} {enc : TypeId × Value → H} {W : World} {base : Nat} {v : Value} {d : DataW H} {ps : List MemPlace} {sp : Nat → Bool} {held : Bool} (hval : Value.okWide Tryd.prog W .any base 22 v) (h : DataW.Trod enc Tryd.prog W 0 sp held 22 v d ps) :
    ∃ l : List Tr, D.of d = .sl (l.map Tr.toD) ∧ DAt W (· < W.heap.size) (.sl (l.map Tr.toD)) [v] := by
  obtain ⟨fuel, hf⟩ := h
  obtain ⟨h1, h2, h3⟩ := trod_at treeTypes fuel _ _ _ _ (by simp) hf
  obtain ⟨fs, hu, hts⟩ := treeFields
  obtain ⟨l, hl⟩ := h2.slice_of Tryd.underlying22 (f := Tr.toD) (fun j y _ hy => Tr.of_fits hu hts Tryd.underlying22 Tryd.underlying3 _ _ hy)
  obtain ⟨a, n, cap, rfl⟩ := okWide_slice Tryd.underlying22 hval
  rw [hl] at h1
  exact ⟨l, hl, h1⟩

end Go.Proofs.YtpacnaeckbcpjaaDoor
