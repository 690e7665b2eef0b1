/- The reference: Signs, Sign, may, pass. -/
import Derived.Test.YtpcbaokplifcoaaDoorLexR
namespace Go.Chalk
open Go.RowKit Go.Proofs.YtpcbaokplifcoaaDoor
theorem signs_contains (l : Bs) : signsL.contains l = signsL.any (fun s => s == l) := by
  rw [Bool.eq_iff_iff]; simp [List.any_eq_true]
end Go.Chalk
namespace Go.Proofs.YtpcbaokplifcoaaDoor
open Go.RowKit Go.Chalk

set_option maxRecDepth 100000 in
theorem signs_any (w : World) : Calls Tryd.prog 37 #[] w fun e w' => e = .returned (.slice (some ⟨w.heap.size, 0, none⟩) 18 18) ∧ w' = w.alloc (.cells signVals.toArray 9) := by
  go_enter Tryd.func37, Tryd.ntmps37
  go_wp2_with fail
  go_ret
  exact ⟨rfl, rfl⟩
theorem signs_cells (w : World) (k : Nat) (hk : k < 18) : (w.alloc (.cells signVals.toArray 9)).cell? ⟨w.heap.size, k, none⟩ = some (.string ⟨(signsL.getD k []).toArray⟩) := cell_of_heap (heap_alloc_new _ _) (signVals_get k hk)

set_option maxRecDepth 100000 in
theorem signR_any (l : Bs) (w : World) : Calls Tryd.prog 42 #[.string ⟨l.toArray⟩] w fun e w' => e = .returned (.bool (signsL.contains l)) ∧ Below w.heap.size w w' := by
  have HC : Hid (∀ k, k < 18 → (w.alloc (.cells signVals.toArray 9)).cell? ⟨w.heap.size, k, none⟩ = some (.string ⟨(signsL.getD k []).toArray⟩)) := signs_cells w
  have HBW := Lib.hid ((Below.refl w.heap.size w).alloc (Nat.le_refl _) (.cells signVals.toArray 9))
  have HNO : Hid ((∀ j, j < 18 → (signsL.getD j [] == l) = false) → signsL.contains l = false) := fun h => by
    rw [signs_contains, List.any_eq_false]
    intro x hx
    obtain ⟨j, hj, rfl⟩ := List.getElem_of_mem hx
    have := h j hj
    rw [List.getD_eq_getElem?_getD, List.getElem?_eq_getElem hj, Option.getD_some] at this
    rw [this]; simp
  have HYE : Hid (∀ j, j < 18 → (signsL.getD j [] == l) = true → signsL.contains l = true) := fun j hj h => by
    have hj' : j < signsL.length := hj
    rw [signs_contains, List.any_eq_true]
    refine ⟨signsL[j], List.getElem_mem _, ?_⟩
    rw [List.getD_eq_getElem?_getD, List.getElem?_eq_getElem hj', Option.getD_some] at h
    exact h
  have HSI := Lib.hid (signs_any w)
  go_enter Tryd.func42, Tryd.ntmps42
  go_wp2_with fail
  refine HSI.out.mono ?_
  rintro e w1 ⟨rfl, hw1⟩
  rw [← hw1] at HC HBW
  clear hw1 HSI
  go_wp2_with fail
  go_loopw [7, 4] (fun i _ wr => ∃ k : Nat, k ≤ 18 ∧ i = .int .i64 k ∧ Hid (∀ j, j < k → (signsL.getD j [] == l) = false) ∧ wr = w1) (fun i _ _ => 18 - (intOf i).toNat)
  case atStart => exact ⟨0, by omega, rfl, fun j hj => absurd hj (by omega), rfl⟩
  case round =>
    obtain ⟨k, hk, rfl, HJ, rfl⟩ := hrel
    by_cases hlt : k < 18
    · have hcl := HC.out k hlt
      have HYK := Lib.hid (HYE.out k hlt)
      generalize hsg : signsL.getD k [] = sg at *
      have HSG := Lib.hid hsg
      clear hsg
      have hlt' : decide ((k : Int) < 18) = true := by simp; omega
      cases hpp : (sg == l)
      · have HPP := Lib.hid hpp
        go_wp2_with fail
        exact ⟨⟨k + 1, by omega, by go_num, fun j hj => by
          rcases Nat.lt_succ_iff_lt_or_eq.1 hj with h | rfl
          · exact HJ.out j h
          · rw [HSG.out]; exact HPP.out, by first | rfl | trivial⟩, by simp [intOf]; omega⟩
      · have HPP := Lib.hid hpp
        go_wp2_with fail
        go_ret
        exact ⟨by rw [HYK.out HPP.out]; rfl, HBW.out⟩
    · obtain rfl : k = 18 := by omega
      go_wp2_with fail
      go_ret
      exact ⟨by rw [HNO.out HJ.out]; rfl, HBW.out⟩

theorem may_any (t : Tok) (z : Int) (w : World) (hl : t.text.length ≤ 281474976710656) :
    Calls Tryd.prog 26 #[.agg #[.int .i64 t.kind, .string ⟨t.text.toArray⟩, .int .i64 z]] w fun e w' => e = .returned (.bool (rightB t)) ∧ Below w.heap.size w w' := by
  obtain ⟨kd, tx, pp⟩ := t
  simp only at hl ⊢
  have hba : Below w.heap.size w (w.alloc (.cells #[.int .i64 kd, .string ⟨tx.toArray⟩, .int .i64 z] 34)) := (Below.refl _ _).alloc (Nat.le_refl _) _
  have HBA := Lib.hid hba
  have hsz : (⟨tx.toArray⟩ : ByteArray).size ≤ 281474976710656 := by rw [size_mk]; exact hl
  have hdl : (⟨tx.toArray⟩ : ByteArray).data.toList = tx := by simp
  have hw := wordR_any ⟨tx.toArray⟩ (w.alloc (.cells #[.int .i64 kd, .string ⟨tx.toArray⟩, .int .i64 z] 34)) hsz
  have hn := numR_any ⟨tx.toArray⟩ (w.alloc (.cells #[.int .i64 kd, .string ⟨tx.toArray⟩, .int .i64 z] 34)) hsz
  rw [hdl] at hw hn
  have HW := Lib.hid hw
  have HN := Lib.hid hn
  have HS := Lib.hid (signR_any tx (w.alloc (.cells #[.int .i64 kd, .string ⟨tx.toArray⟩, .int .i64 z] 34)))
  clear hw hn hdl hsz hba
  by_cases h1 : kd = 1
  · subst h1
    rw [show rightB ⟨1, tx, pp⟩ = wordB tx from rfl]
    go_enter Tryd.func26, Tryd.ntmps26
    go_wp2_with (go_at_call 34; refine HW.out.mono ?_; rintro e w2 ⟨rfl, rfl⟩)
    go_ret
    exact ⟨rfl, HBA.out⟩
  · by_cases h2 : kd = 2
    · subst h2
      rw [show rightB ⟨2, tx, pp⟩ = numB tx from rfl]
      go_enter Tryd.func26, Tryd.ntmps26
      go_wp2_with (go_at_call 36; refine HN.out.mono ?_; rintro e w2 ⟨rfl, rfl⟩)
      go_ret
      exact ⟨rfl, HBA.out⟩
    · by_cases h3 : kd = 3
      · subst h3
        rw [show rightB ⟨3, tx, pp⟩ = signsL.contains tx from rfl]
        generalize signsL.contains tx = sc at *
        go_enter Tryd.func26, Tryd.ntmps26
        go_wp2_with (go_at_call 42; refine HS.out.mono ?_; rintro e w2 ⟨rfl, hb2⟩; have HB2 := Lib.hid (HBA.out.trans (hb2.mono HBA.out.size)); clear hb2)
        go_ret
        exact ⟨rfl, HB2.out⟩
      · have hf : rightB ⟨kd, tx, pp⟩ = false := by simp [rightB, h1, h2, h3]
        rw [hf]
        have e1 : (kd == 1) = false := by simp [h1]
        have e2 : (kd == 2) = false := by simp [h2]
        have e3 : (kd == 3) = false := by simp [h3]
        clear hf h1 h2 h3
        go_enter Tryd.func26, Tryd.ntmps26
        go_wp2_with fail
        go_ret
        exact ⟨rfl, HBA.out⟩
end Go.Proofs.YtpcbaokplifcoaaDoor
