/- Joined texts: GatN. -/
import Derived.Test.YtjjkfgjnadaheaaGreatDoorB21
import Derived.Test.YtjjkfgjnadaheaaGreatDoorB06
set_option maxRecDepth 100000
set_option linter.unusedVariables false
set_option linter.unusedSimpArgs false
/- What the rows' lists say of formula.duals. -/
namespace Go.Proofs.YtjjkfgjnadaheaaGreatDoor
open Go.ChangeShapes Go.WideShapes Go.ChangeAt Go.RowKit Go.Chalk Go.Maps
open Go.WideElems (Fit rd rg pl elemAt)
theorem duals_of {W : World} (h : laidMetH Tryz.prog [("chalkline/formula.duals", Rows.laid_chalkline_formula_duals)] W) : MapG W 3 204 false (fun k => .int .i64 (dualK (keyInt k))) intKey := by
 obtain ⟨b,es,clock,m,enc,sp,held,h1,h2,h3,h4⟩:=laid_map h (by kernel_rfl) (by kernel_rfl) Tryz.underlying204
 refine mapG_of (int_keyed Tryz.underlying3) Tryz.underlying204 (z:=.int .i64 0) (fun _=>by kernel_rfl) decI (fun v y hv _=>int_dec Tryz.underlying3 hv) h1 h2 h3 h4 _ _ ?_
 rintro key ⟨s,hs,rfl⟩
 refine ⟨.int .i64 s,key_int hs,?_⟩
 simp only [keyInt]
 by_cases hc:s∈([1,2,11,12,14,15,16,17]:List Int)
 ·simp only [List.mem_cons,List.not_mem_nil,or_false] at hc
  rcases hc with rfl | rfl | rfl | rfl | rfl | rfl | rfl | rfl <;> rfl
 ·rw [find_int_none _ (by decide +kernel) hc]
  have e:dualK s=0:=by
   simp only [List.mem_cons,List.not_mem_nil,or_false,not_or] at hc
   unfold dualK
   simp [hc]
  rw [e];rfl
end Go.Proofs.YtjjkfgjnadaheaaGreatDoor
