/-
  DERIVED. GIVEN WITH THE SEED: THE PROGRAM's TIES (one call each: nine closed facts by the kernel) AND EACH ROW's TIE, after the 31st guide's Derived/Test/Toyas{Tie, Card}.lean. No idea stands in it: it is a product of the set-up. Laid BY PROGRAM, IN A SANDBOX (cutbox-door.mjs). By AI agents, Wed Nov 11 2026. No macro, syntax, notation, axiom, sorry.
-/
import Derived.Test.YtjjkfgjnadaheaaGreatDoorRows
import Derived.LaidByTextLater
import Derived.SevenTiedAt
import Derived.LaidSub
import Derived.LaidOnce
namespace Go.Proofs.YtjjkfgjnadaheaaGreatDoor
open Go
set_option maxRecDepth 100000
theorem seatTie1 : Tryz.prog.laidByTextLater [("math/bits.deBruijn32tab", Rows.laid_math_bits_deBruijn32tab), ("math/bits.deBruijn64tab", Rows.laid_math_bits_deBruijn64tab), ("internal/strconv.uint64pow10", Rows.laid_internal_strconv_uint64pow10), ("unicode/utf8.acceptRanges", Rows.laid_unicode_utf8_acceptRanges), ("chalkline/formula.reserved", Rows.laid_chalkline_formula_reserved), ("chalkline/formula.signs", Rows.laid_chalkline_formula_signs), ("chalkline/formula.arity", Rows.laid_chalkline_formula_arity), ("chalkline/types.asks", Rows.laid_chalkline_types_asks), ("chalkline/types.takes", Rows.laid_chalkline_types_takes), ("chalkline/eval.signs", Rows.laid_chalkline_eval_signs), ("chalkline/eval.atoms", Rows.laid_chalkline_eval_atoms)] [.data, .data, .data, .data, .mapped, .mapped, .mapped, .widerDeep, .data, .funcs, .funcs] true :=
  Program.laidByTextLater_by_one 426 8 65 (by kernel_rfl) (by kernel_rfl) (by kernel_rfl) (by kernel_rfl) (by kernel_rfl) (by kernel_rfl) (fun _ _ => by kernel_rfl)
theorem seatTie2 : Tryz.prog.laidByTextLater [("math/bits.deBruijn32tab", Rows.laid_math_bits_deBruijn32tab), ("math/bits.deBruijn64tab", Rows.laid_math_bits_deBruijn64tab), ("internal/strconv.uint64pow10", Rows.laid_internal_strconv_uint64pow10), ("unicode/utf8.acceptRanges", Rows.laid_unicode_utf8_acceptRanges), ("chalkline/formula.reserved", Rows.laid_chalkline_formula_reserved), ("chalkline/formula.duals", Rows.laid_chalkline_formula_duals), ("chalkline/formula.signs", Rows.laid_chalkline_formula_signs), ("chalkline/formula.arity", Rows.laid_chalkline_formula_arity), ("chalkline/types.asks", Rows.laid_chalkline_types_asks), ("chalkline/types.takes", Rows.laid_chalkline_types_takes), ("chalkline/eval.signs", Rows.laid_chalkline_eval_signs), ("chalkline/eval.atoms", Rows.laid_chalkline_eval_atoms)] [.data, .data, .data, .data, .mapped, .mapped, .mapped, .mapped, .widerDeep, .data, .funcs, .funcs] true :=
  Program.laidByTextLater_by_one 426 8 65 (by kernel_rfl) (by kernel_rfl) (by kernel_rfl) (by kernel_rfl) (by kernel_rfl) (by kernel_rfl) (fun _ _ => by kernel_rfl)
theorem pin_laid_unicode_utf8_first : Tryz.pinned.checked.prog.pinnedFits "unicode/utf8.first" = true := by kernel_rfl
theorem noOwnUnsafe : Tryz.pinned.checked.prog.headLifts.contains "ownunsafe" = false := by kernel_rfl
theorem fits1 : Tryz.pinned.checked.prog.listedFits [("math/bits.deBruijn32tab", Rows.laid_math_bits_deBruijn32tab), ("math/bits.deBruijn64tab", Rows.laid_math_bits_deBruijn64tab), ("internal/strconv.uint64pow10", Rows.laid_internal_strconv_uint64pow10), ("unicode/utf8.acceptRanges", Rows.laid_unicode_utf8_acceptRanges), ("chalkline/formula.reserved", Rows.laid_chalkline_formula_reserved), ("chalkline/formula.signs", Rows.laid_chalkline_formula_signs), ("chalkline/formula.arity", Rows.laid_chalkline_formula_arity), ("chalkline/types.asks", Rows.laid_chalkline_types_asks), ("chalkline/types.takes", Rows.laid_chalkline_types_takes), ("chalkline/eval.signs", Rows.laid_chalkline_eval_signs), ("chalkline/eval.atoms", Rows.laid_chalkline_eval_atoms), ("unicode/utf8.first", Rows.laid_unicode_utf8_first)] = true := by
  unfold Program.listedFits
  rw [noOwnUnsafe]
  kernel_rfl
theorem tie : Tryz.prog.laidByTextLater [("math/bits.deBruijn32tab", Rows.laid_math_bits_deBruijn32tab), ("math/bits.deBruijn64tab", Rows.laid_math_bits_deBruijn64tab), ("internal/strconv.uint64pow10", Rows.laid_internal_strconv_uint64pow10), ("unicode/utf8.acceptRanges", Rows.laid_unicode_utf8_acceptRanges), ("chalkline/formula.reserved", Rows.laid_chalkline_formula_reserved), ("chalkline/formula.signs", Rows.laid_chalkline_formula_signs), ("chalkline/formula.arity", Rows.laid_chalkline_formula_arity), ("chalkline/types.asks", Rows.laid_chalkline_types_asks), ("chalkline/types.takes", Rows.laid_chalkline_types_takes), ("chalkline/eval.signs", Rows.laid_chalkline_eval_signs), ("chalkline/eval.atoms", Rows.laid_chalkline_eval_atoms)] [.data, .data, .data, .data, .mapped, .mapped, .mapped, .widerDeep, .data, .funcs, .funcs] true :=
  Program.laidByTextLater.sub seatTie1 ["math/bits.deBruijn32tab", "math/bits.deBruijn64tab", "internal/strconv.uint64pow10", "unicode/utf8.acceptRanges", "chalkline/formula.reserved", "chalkline/formula.signs", "chalkline/formula.arity", "chalkline/types.asks", "chalkline/types.takes", "chalkline/eval.signs", "chalkline/eval.atoms"] (by kernel_rfl) (by kernel_rfl)
theorem groundTrees_row_tie : Rows.groundTreesRow.laidByTextAt .later Tryz.pinned [.data, .data, .data, .data, .mapped, .mapped, .mapped, .widerDeep, .data, .funcs, .funcs, .pinned] true :=
  OpenClaim.laidByTextAt_pinned rfl rfl tie rfl rfl rfl rfl (fun y hy _e => by
    simp only [Rows.groundTreesRow, List.zip_cons_cons, List.zip_nil_right, List.mem_cons, List.mem_nil_iff, or_false] at hy
    rcases hy with rfl | rfl | rfl | rfl | rfl | rfl | rfl | rfl | rfl | rfl | rfl | rfl
    · cases _e
    · cases _e
    · cases _e
    · cases _e
    · cases _e
    · cases _e
    · cases _e
    · cases _e
    · cases _e
    · cases _e
    · cases _e
    · exact ⟨pin_laid_unicode_utf8_first, by kernel_rfl⟩) fits1
theorem groundFrames_row_tie : Rows.groundFramesRow.laidByTextAt .later Tryz.pinned [.data, .data, .data, .data, .mapped, .mapped, .mapped, .widerDeep, .data, .funcs, .funcs, .pinned] true :=
  OpenClaim.laidByTextAt_pinned rfl rfl tie rfl rfl rfl rfl (fun y hy _e => by
    simp only [Rows.groundFramesRow, List.zip_cons_cons, List.zip_nil_right, List.mem_cons, List.mem_nil_iff, or_false] at hy
    rcases hy with rfl | rfl | rfl | rfl | rfl | rfl | rfl | rfl | rfl | rfl | rfl | rfl
    · cases _e
    · cases _e
    · cases _e
    · cases _e
    · cases _e
    · cases _e
    · cases _e
    · cases _e
    · cases _e
    · cases _e
    · cases _e
    · exact ⟨pin_laid_unicode_utf8_first, by kernel_rfl⟩) fits1
theorem groundHolds_row_tie : Rows.groundHoldsRow.laidByTextAt .later Tryz.pinned [.data, .data, .data, .data, .mapped, .mapped, .mapped, .widerDeep, .data, .funcs, .funcs, .pinned] true :=
  OpenClaim.laidByTextAt_pinned rfl rfl tie rfl rfl rfl rfl (fun y hy _e => by
    simp only [Rows.groundHoldsRow, List.zip_cons_cons, List.zip_nil_right, List.mem_cons, List.mem_nil_iff, or_false] at hy
    rcases hy with rfl | rfl | rfl | rfl | rfl | rfl | rfl | rfl | rfl | rfl | rfl | rfl
    · cases _e
    · cases _e
    · cases _e
    · cases _e
    · cases _e
    · cases _e
    · cases _e
    · cases _e
    · cases _e
    · cases _e
    · cases _e
    · exact ⟨pin_laid_unicode_utf8_first, by kernel_rfl⟩) fits1
theorem groundOne_row_tie : Rows.groundOneRow.laidByTextAt .later Tryz.pinned [.data, .data, .data, .data, .mapped, .mapped, .mapped, .widerDeep, .data, .funcs, .funcs, .pinned] true :=
  OpenClaim.laidByTextAt_pinned rfl rfl tie rfl rfl rfl rfl (fun y hy _e => by
    simp only [Rows.groundOneRow, List.zip_cons_cons, List.zip_nil_right, List.mem_cons, List.mem_nil_iff, or_false] at hy
    rcases hy with rfl | rfl | rfl | rfl | rfl | rfl | rfl | rfl | rfl | rfl | rfl | rfl
    · cases _e
    · cases _e
    · cases _e
    · cases _e
    · cases _e
    · cases _e
    · cases _e
    · cases _e
    · cases _e
    · cases _e
    · cases _e
    · exact ⟨pin_laid_unicode_utf8_first, by kernel_rfl⟩) fits1
theorem groundWeeks_row_tie : Rows.groundWeeksRow.laidByTextAt .later Tryz.pinned [.data, .data, .data, .data, .mapped, .mapped, .mapped, .widerDeep, .data, .funcs, .funcs, .pinned] true :=
  OpenClaim.laidByTextAt_pinned rfl rfl tie rfl rfl rfl rfl (fun y hy _e => by
    simp only [Rows.groundWeeksRow, List.zip_cons_cons, List.zip_nil_right, List.mem_cons, List.mem_nil_iff, or_false] at hy
    rcases hy with rfl | rfl | rfl | rfl | rfl | rfl | rfl | rfl | rfl | rfl | rfl | rfl
    · cases _e
    · cases _e
    · cases _e
    · cases _e
    · cases _e
    · cases _e
    · cases _e
    · cases _e
    · cases _e
    · cases _e
    · cases _e
    · exact ⟨pin_laid_unicode_utf8_first, by kernel_rfl⟩) fits1
theorem gateGround_row_tie : Rows.gateGroundRow.laidByTextAt .later Tryz.pinned [.data, .data, .data, .data, .mapped, .mapped, .mapped, .widerDeep, .data, .funcs, .funcs, .pinned] true :=
  OpenClaim.laidByTextAt_pinned rfl rfl tie rfl rfl rfl rfl (fun y hy _e => by
    simp only [Rows.gateGroundRow, List.zip_cons_cons, List.zip_nil_right, List.mem_cons, List.mem_nil_iff, or_false] at hy
    rcases hy with rfl | rfl | rfl | rfl | rfl | rfl | rfl | rfl | rfl | rfl | rfl | rfl
    · cases _e
    · cases _e
    · cases _e
    · cases _e
    · cases _e
    · cases _e
    · cases _e
    · cases _e
    · cases _e
    · cases _e
    · cases _e
    · exact ⟨pin_laid_unicode_utf8_first, by kernel_rfl⟩) fits1
theorem fits2 : Tryz.pinned.checked.prog.listedFits [("math/bits.deBruijn32tab", Rows.laid_math_bits_deBruijn32tab), ("math/bits.deBruijn64tab", Rows.laid_math_bits_deBruijn64tab), ("internal/strconv.uint64pow10", Rows.laid_internal_strconv_uint64pow10), ("unicode/utf8.acceptRanges", Rows.laid_unicode_utf8_acceptRanges), ("chalkline/formula.reserved", Rows.laid_chalkline_formula_reserved), ("chalkline/formula.duals", Rows.laid_chalkline_formula_duals), ("chalkline/formula.signs", Rows.laid_chalkline_formula_signs), ("chalkline/formula.arity", Rows.laid_chalkline_formula_arity), ("chalkline/types.asks", Rows.laid_chalkline_types_asks), ("chalkline/types.takes", Rows.laid_chalkline_types_takes), ("chalkline/eval.signs", Rows.laid_chalkline_eval_signs), ("chalkline/eval.atoms", Rows.laid_chalkline_eval_atoms), ("unicode/utf8.first", Rows.laid_unicode_utf8_first)] = true := by
  unfold Program.listedFits
  rw [noOwnUnsafe]
  kernel_rfl
theorem tie2 : Tryz.prog.laidByTextLater [("math/bits.deBruijn32tab", Rows.laid_math_bits_deBruijn32tab), ("math/bits.deBruijn64tab", Rows.laid_math_bits_deBruijn64tab), ("internal/strconv.uint64pow10", Rows.laid_internal_strconv_uint64pow10), ("unicode/utf8.acceptRanges", Rows.laid_unicode_utf8_acceptRanges), ("chalkline/formula.reserved", Rows.laid_chalkline_formula_reserved), ("chalkline/formula.duals", Rows.laid_chalkline_formula_duals), ("chalkline/formula.signs", Rows.laid_chalkline_formula_signs), ("chalkline/formula.arity", Rows.laid_chalkline_formula_arity), ("chalkline/types.asks", Rows.laid_chalkline_types_asks), ("chalkline/types.takes", Rows.laid_chalkline_types_takes), ("chalkline/eval.signs", Rows.laid_chalkline_eval_signs), ("chalkline/eval.atoms", Rows.laid_chalkline_eval_atoms)] [.data, .data, .data, .data, .mapped, .mapped, .mapped, .mapped, .widerDeep, .data, .funcs, .funcs] true :=
  Program.laidByTextLater.sub seatTie2 ["math/bits.deBruijn32tab", "math/bits.deBruijn64tab", "internal/strconv.uint64pow10", "unicode/utf8.acceptRanges", "chalkline/formula.reserved", "chalkline/formula.duals", "chalkline/formula.signs", "chalkline/formula.arity", "chalkline/types.asks", "chalkline/types.takes", "chalkline/eval.signs", "chalkline/eval.atoms"] (by kernel_rfl) (by kernel_rfl)
theorem groundNots_row_tie : Rows.groundNotsRow.laidByTextAt .later Tryz.pinned [.data, .data, .data, .data, .mapped, .mapped, .mapped, .mapped, .widerDeep, .data, .funcs, .funcs, .pinned] true :=
  OpenClaim.laidByTextAt_pinned rfl rfl tie2 rfl rfl rfl rfl (fun y hy _e => by
    simp only [Rows.groundNotsRow, List.zip_cons_cons, List.zip_nil_right, List.mem_cons, List.mem_nil_iff, or_false] at hy
    rcases hy with rfl | rfl | rfl | rfl | rfl | rfl | rfl | rfl | rfl | rfl | rfl | rfl | rfl
    · cases _e
    · cases _e
    · cases _e
    · cases _e
    · cases _e
    · cases _e
    · cases _e
    · cases _e
    · cases _e
    · cases _e
    · cases _e
    · cases _e
    · exact ⟨pin_laid_unicode_utf8_first, by kernel_rfl⟩) fits2
theorem groundTreesUpto_row_tie : Rows.groundTreesUptoRow.laidByTextAt .later Tryz.pinned [.data, .data, .data, .data, .mapped, .mapped, .mapped, .widerDeep, .data, .funcs, .funcs, .pinned] true :=
  OpenClaim.laidByTextAt_pinned rfl rfl tie rfl rfl rfl rfl (fun y hy _e => by
    simp only [Rows.groundTreesUptoRow, List.zip_cons_cons, List.zip_nil_right, List.mem_cons, List.mem_nil_iff, or_false] at hy
    rcases hy with rfl | rfl | rfl | rfl | rfl | rfl | rfl | rfl | rfl | rfl | rfl | rfl
    · cases _e
    · cases _e
    · cases _e
    · cases _e
    · cases _e
    · cases _e
    · cases _e
    · cases _e
    · cases _e
    · cases _e
    · cases _e
    · exact ⟨pin_laid_unicode_utf8_first, by kernel_rfl⟩) fits1
theorem groundFramesUpto_row_tie : Rows.groundFramesUptoRow.laidByTextAt .later Tryz.pinned [.data, .data, .data, .data, .mapped, .mapped, .mapped, .widerDeep, .data, .funcs, .funcs, .pinned] true :=
  OpenClaim.laidByTextAt_pinned rfl rfl tie rfl rfl rfl rfl (fun y hy _e => by
    simp only [Rows.groundFramesUptoRow, List.zip_cons_cons, List.zip_nil_right, List.mem_cons, List.mem_nil_iff, or_false] at hy
    rcases hy with rfl | rfl | rfl | rfl | rfl | rfl | rfl | rfl | rfl | rfl | rfl | rfl
    · cases _e
    · cases _e
    · cases _e
    · cases _e
    · cases _e
    · cases _e
    · cases _e
    · cases _e
    · cases _e
    · cases _e
    · cases _e
    · exact ⟨pin_laid_unicode_utf8_first, by kernel_rfl⟩) fits1
theorem groundHoldsUpto_row_tie : Rows.groundHoldsUptoRow.laidByTextAt .later Tryz.pinned [.data, .data, .data, .data, .mapped, .mapped, .mapped, .widerDeep, .data, .funcs, .funcs, .pinned] true :=
  OpenClaim.laidByTextAt_pinned rfl rfl tie rfl rfl rfl rfl (fun y hy _e => by
    simp only [Rows.groundHoldsUptoRow, List.zip_cons_cons, List.zip_nil_right, List.mem_cons, List.mem_nil_iff, or_false] at hy
    rcases hy with rfl | rfl | rfl | rfl | rfl | rfl | rfl | rfl | rfl | rfl | rfl | rfl
    · cases _e
    · cases _e
    · cases _e
    · cases _e
    · cases _e
    · cases _e
    · cases _e
    · cases _e
    · cases _e
    · cases _e
    · cases _e
    · exact ⟨pin_laid_unicode_utf8_first, by kernel_rfl⟩) fits1
theorem groundOneUpto_row_tie : Rows.groundOneUptoRow.laidByTextAt .later Tryz.pinned [.data, .data, .data, .data, .mapped, .mapped, .mapped, .widerDeep, .data, .funcs, .funcs, .pinned] true :=
  OpenClaim.laidByTextAt_pinned rfl rfl tie rfl rfl rfl rfl (fun y hy _e => by
    simp only [Rows.groundOneUptoRow, List.zip_cons_cons, List.zip_nil_right, List.mem_cons, List.mem_nil_iff, or_false] at hy
    rcases hy with rfl | rfl | rfl | rfl | rfl | rfl | rfl | rfl | rfl | rfl | rfl | rfl
    · cases _e
    · cases _e
    · cases _e
    · cases _e
    · cases _e
    · cases _e
    · cases _e
    · cases _e
    · cases _e
    · cases _e
    · cases _e
    · exact ⟨pin_laid_unicode_utf8_first, by kernel_rfl⟩) fits1
theorem groundWeeksUpto_row_tie : Rows.groundWeeksUptoRow.laidByTextAt .later Tryz.pinned [.data, .data, .data, .data, .mapped, .mapped, .mapped, .widerDeep, .data, .funcs, .funcs, .pinned] true :=
  OpenClaim.laidByTextAt_pinned rfl rfl tie rfl rfl rfl rfl (fun y hy _e => by
    simp only [Rows.groundWeeksUptoRow, List.zip_cons_cons, List.zip_nil_right, List.mem_cons, List.mem_nil_iff, or_false] at hy
    rcases hy with rfl | rfl | rfl | rfl | rfl | rfl | rfl | rfl | rfl | rfl | rfl | rfl
    · cases _e
    · cases _e
    · cases _e
    · cases _e
    · cases _e
    · cases _e
    · cases _e
    · cases _e
    · cases _e
    · cases _e
    · cases _e
    · exact ⟨pin_laid_unicode_utf8_first, by kernel_rfl⟩) fits1
theorem groundNotsUpto_row_tie : Rows.groundNotsUptoRow.laidByTextAt .later Tryz.pinned [.data, .data, .data, .data, .mapped, .mapped, .mapped, .mapped, .widerDeep, .data, .funcs, .funcs, .pinned] true :=
  OpenClaim.laidByTextAt_pinned rfl rfl tie2 rfl rfl rfl rfl (fun y hy _e => by
    simp only [Rows.groundNotsUptoRow, List.zip_cons_cons, List.zip_nil_right, List.mem_cons, List.mem_nil_iff, or_false] at hy
    rcases hy with rfl | rfl | rfl | rfl | rfl | rfl | rfl | rfl | rfl | rfl | rfl | rfl | rfl
    · cases _e
    · cases _e
    · cases _e
    · cases _e
    · cases _e
    · cases _e
    · cases _e
    · cases _e
    · cases _e
    · cases _e
    · cases _e
    · cases _e
    · exact ⟨pin_laid_unicode_utf8_first, by kernel_rfl⟩) fits2
theorem gateGroundUpto_row_tie : Rows.gateGroundUptoRow.laidByTextAt .later Tryz.pinned [.data, .data, .data, .data, .mapped, .mapped, .mapped, .widerDeep, .data, .funcs, .funcs, .pinned] true :=
  OpenClaim.laidByTextAt_pinned rfl rfl tie rfl rfl rfl rfl (fun y hy _e => by
    simp only [Rows.gateGroundUptoRow, List.zip_cons_cons, List.zip_nil_right, List.mem_cons, List.mem_nil_iff, or_false] at hy
    rcases hy with rfl | rfl | rfl | rfl | rfl | rfl | rfl | rfl | rfl | rfl | rfl | rfl
    · cases _e
    · cases _e
    · cases _e
    · cases _e
    · cases _e
    · cases _e
    · cases _e
    · cases _e
    · cases _e
    · cases _e
    · cases _e
    · exact ⟨pin_laid_unicode_utf8_first, by kernel_rfl⟩) fits1
end Go.Proofs.YtjjkfgjnadaheaaGreatDoor
