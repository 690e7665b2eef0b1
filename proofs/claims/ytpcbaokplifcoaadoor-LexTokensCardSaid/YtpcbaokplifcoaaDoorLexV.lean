/- The reference: one (signs), whole. -/
import Derived.Test.YtpcbaokplifcoaaDoorLexU
namespace Go.Chalk
open Go.RowKit Go.Proofs.YtpcbaokplifcoaaDoor
theorem prefix_take (s m : Bs) : s.isPrefixOf m = (decide (s.length ≤ m.length) && (m.take s.length == s)) := by
  rw [Bool.eq_iff_iff]
  simp only [List.isPrefixOf_iff_prefix, Bool.and_eq_true, decide_eq_true_eq, beq_iff_eq]
  constructor
  · intro h
    exact ⟨h.length_le, (List.prefix_iff_eq_take.1 h).symm⟩
  · rintro ⟨_, h⟩
    rw [List.prefix_iff_eq_take]; exact h.symm
theorem sign_first (m : Bs) (k : Nat) (hk : k < 18) (h : ∀ j, j < k → (signsL.getD j []).isPrefixOf m = false) (hp : (signsL.getD k []).isPrefixOf m = true) : signB m = signsL.getD k [] := by
  have hk' : k < signsL.length := hk
  have hf : signsL.find? (fun s => s.isPrefixOf m) = some signsL[k] := by
    rw [List.find?_eq_some_iff_getElem]
    refine ⟨by simpa [List.getD, hk'] using hp, k, hk', rfl, fun j hj => ?_⟩
    have := h j hj
    have hj' : j < signsL.length := by omega
    simpa [List.getD, hj'] using this
  unfold signB
  rw [hf]
  simp [List.getD, hk']
theorem sign_never (m : Bs) (h : ∀ j, j < 18 → (signsL.getD j []).isPrefixOf m = false) : signB m = [] := by
  have hf : signsL.find? (fun s => s.isPrefixOf m) = none := by
    rw [List.find?_eq_none]
    intro x hx
    obtain ⟨j, hj, rfl⟩ := List.getElem_of_mem hx
    have := h j hj
    rw [List.getD_eq_getElem?_getD, List.getElem?_eq_getElem hj, Option.getD_some] at this
    rw [this]; simp
  unfold signB
  rw [hf]; rfl
theorem sign_len (k : Nat) (hk : k < 18) : 1 ≤ (signsL.getD k []).length ∧ (signsL.getD k []).length ≤ 2 := by
  have : ∀ k, k < 18 → 1 ≤ (signsL.getD k []).length ∧ (signsL.getD k []).length ≤ 2 := by decide
  exact this k hk
end Go.Chalk
namespace Go.Proofs.YtpcbaokplifcoaaDoor
open Go.RowKit Go.Chalk

set_option maxRecDepth 100000 in
set_option maxHeartbeats 1000000 in
theorem one_sign (l : Bs) (b o cap p : Nat) (w : World) (hsb : SB w w.heap.size l (some ⟨b, o, none⟩) b o) (hp : p < l.length) (hcap : l.length ≤ cap) (hmax : l.length ≤ 281474976710656) (hsm : smallB l[p] = false) (hdg : digitB l[p] = false) :
    Calls Tryd.prog 21 #[.slice (some ⟨b, o, none⟩) l.length cap, .int .i64 p] w (OnePost l p w) := by
  have hbl := (hsb.1 (by omega)).2
  have hba : Below w.heap.size w (w.alloc (.cells #[.int .i64 0, .string ⟨#[]⟩, .int .i64 0] 34)) := (Below.refl _ _).alloc (Nat.le_refl _) _
  have hblk := heap_alloc_new w (.cells #[.int .i64 0, .string ⟨#[]⟩, .int .i64 0] 34)
  have h0 := hsb.2 p hp
  have HSB := Lib.hid hsb
  have HBA := Lib.hid hba
  have HBK := Lib.hid hblk
  have HLT := Lib.hid (letter_any l[p] (w.alloc (.cells #[.int .i64 0, .string ⟨#[]⟩, .int .i64 0] 34)))
  rw [hsm] at HLT
  have HDG := Lib.hid (digit_any l[p] (w.alloc (.cells #[.int .i64 0, .string ⟨#[]⟩, .int .i64 0] 34)))
  rw [hdg] at HDG
  have HSI := Lib.hid (signs_any (w.alloc (.cells #[.int .i64 0, .string ⟨#[]⟩, .int .i64 0] 34)))
  have HSC := Lib.hid (signs_cells (w.alloc (.cells #[.int .i64 0, .string ⟨#[]⟩, .int .i64 0] 34)))
  rw [World.size_alloc] at HSI HSC
  have HB2 : Hid (Below w.heap.size w ((w.alloc (.cells #[.int .i64 0, .string ⟨#[]⟩, .int .i64 0] 34)).alloc (.cells signVals.toArray 9))) := hba.alloc hba.size _
  have HBK2 : Hid (((w.alloc (.cells #[.int .i64 0, .string ⟨#[]⟩, .int .i64 0] 34)).alloc (.cells signVals.toArray 9)).heap[w.heap.size]? = some (.cells #[.int .i64 0, .string ⟨#[]⟩, .int .i64 0] 34 (0, 0))) := (Below.heap_alloc _ _ _ (by simp)).trans hblk
  have hnx : nextF (l.drop p) = (3, signB (l.drop p), !(signB (l.drop p)).isEmpty) := by
    rw [List.drop_eq_getElem_cons hp, nextF, if_neg (by simp [hsm]), if_neg (by simp [hdg])]
  have HYES : Hid (∀ k, k < 18 → (∀ j, j < k → (signsL.getD j []).isPrefixOf (l.drop p) = false) → (signsL.getD k []).isPrefixOf (l.drop p) = true → ∀ W : World, Below w.heap.size w W → OnePost l p w (.returned (.tuple #[.agg #[.int .i64 3, .string ⟨(signsL.getD k []).toArray⟩, .int .i64 (p : Int)], .bool true])) W) := fun k hk h1 h2 W hb => by
    have e := sign_first _ k hk h1 h2
    have hne : (signsL.getD k []).isEmpty = false := by
      have := (sign_len k hk).1
      cases hh : signsL.getD k [] with
      | nil => rw [hh] at this; simp at this
      | cons => rfl
    exact ⟨_, _, _, _, rfl, by rw [hnx, e, hne]; rfl, fun _ => by rw [hnx, e]; exact ⟨rfl, rfl, rfl⟩, hb⟩
  have HNO : Hid ((∀ j, j < 18 → (signsL.getD j []).isPrefixOf (l.drop p) = false) → ∀ W : World, Below w.heap.size w W → OnePost l p w (.returned (.tuple #[.agg #[.int .i64 0, .string ⟨#[]⟩, .int .i64 0], .bool false])) W) := fun h W hb => by
    have e := sign_never _ h
    exact ⟨0, [], 0, false, rfl, by rw [hnx, e]; rfl, (fun h => by cases h), hb⟩
  clear hsb hba hblk hnx
  generalize (l[p].toNat : Int) = cp at *
  go_enter Tryd.func21, Tryd.ntmps21
  go_wp2_with (first | (go_at_call 32; refine HLT.out.mono ?_; rintro e w' ⟨rfl, rfl⟩) | (go_at_call 35; refine HDG.out.mono ?_; rintro e w' ⟨rfl, rfl⟩))
  refine HSI.out.mono ?_
  rintro e w1 ⟨rfl, hw1⟩
  rw [← hw1] at HSC HB2 HBK2
  clear hw1 HSI HBK h0
  go_wp2_with fail
  go_loopw [70, 10] (fun i _ wr => ∃ k : Nat, k ≤ 18 ∧ i = .int .i64 k ∧ Hid (∀ j, j < k → (signsL.getD j []).isPrefixOf (l.drop p) = false) ∧ wr = w1) (fun i _ _ => 18 - (intOf i).toNat)
  case atStart => exact ⟨0, by omega, rfl, fun j hj => absurd hj (by omega), rfl⟩
  case round =>
    obtain ⟨k, hk, rfl, HJ, rfl⟩ := hrel
    by_cases hlt : k < 18
    · have hcl := HSC.out k hlt
      have hsl := sign_len k hlt
      have HYK := Lib.hid (HYES.out k hlt HJ.out)
      have HPX := Lib.hid (prefix_take (signsL.getD k []) (l.drop p))
      generalize hsg : signsL.getD k [] = sg at *
      have HSG := Lib.hid hsg
      clear hsg
      have hlt' : decide ((k : Int) < 18) = true := by simp; omega
      have hpx := HPX.out
      rw [List.length_drop] at hpx
      by_cases hfit : p + sg.length ≤ l.length
      · have hf : decide ((p : Int) + (sg.length : Int) ≤ (l.length : Int)) = true := by simp; omega
        have hf2 : decide (sg.length ≤ l.length - p) = true := by simp; omega
        rw [hf2, Bool.true_and] at hpx
        have hs3 : SB wr wr.heap.size ((l.drop p).take sg.length) (some ⟨b, o + p, none⟩) b (o + p) := ⟨fun _ => ⟨rfl, Nat.lt_of_lt_of_le hbl HB2.out.size⟩, ((HSB.out.below HB2.out HB2.out.size).2.drop p).take _⟩
        have htx := hs3.text (P := Tryd.prog) 22 5 9 Tryd.underlying22 Tryd.underlying5 Tryd.underlying9 (cap - p)
        rw [List.length_take, List.length_drop, Nat.min_eq_left (by omega)] at htx
        clear hs3
        generalize (l.drop p).take sg.length = tk at *
        cases hpp : (tk == sg)
        · rw [hpp] at hpx
          have HPP := Lib.hid hpx
          clear hpx
          go_wp2_with fail
          exact ⟨⟨k + 1, by omega, by go_num, fun j hj => by
            rcases Nat.lt_succ_iff_lt_or_eq.1 hj with h | rfl
            · exact HJ.out j h
            · rw [HSG.out]; exact HPP.out, by first | rfl | trivial⟩, by simp [intOf]; omega⟩
        · rw [hpp] at hpx
          have HPP := Lib.hid hpx
          obtain ⟨f0, f1, f2, x0, x1, x2⟩ := res3 HBK2.out
          have hlt0 := World.block_lt_of_cell? _ _ x0
          clear hpx
          go_wp2_with fail
          refine bodyPost_ret (v := .tuple #[.agg #[.int .i64 3, .string ⟨sg.toArray⟩, .int .i64 (p : Int)], .bool true]) (by simp [results, Tryd.results21, go_sem, *]) rfl ?_
          exact HYK.out HPP.out _ (put3_below _ _ _ HB2.out (Nat.le_refl _))
      · have hf : decide ((p : Int) + (sg.length : Int) ≤ (l.length : Int)) = false := by simp; omega
        have hf2 : decide (sg.length ≤ l.length - p) = false := by simp; omega
        rw [hf2, Bool.false_and] at hpx
        have HPP := Lib.hid hpx
        clear hpx
        go_wp2_with fail
        exact ⟨⟨k + 1, by omega, by go_num, fun j hj => by
          rcases Nat.lt_succ_iff_lt_or_eq.1 hj with h | rfl
          · exact HJ.out j h
          · rw [HSG.out]; exact HPP.out, by first | rfl | trivial⟩, by simp [intOf]; omega⟩
    · obtain rfl : k = 18 := by omega
      obtain ⟨f0, f1, f2, x0, x1, x2⟩ := res3 HBK2.out
      go_wp2_with fail
      refine bodyPost_ret (v := .tuple #[.agg #[.int .i64 0, .string ⟨#[]⟩, .int .i64 0], .bool false]) (by simp [results, Tryd.results21, go_sem, *]) rfl ?_
      exact HNO.out HJ.out _ (put3_below _ _ _ HB2.out (Nat.le_refl _))

theorem one_any (l : Bs) (b o cap p : Nat) (w : World) (hsb : SB w w.heap.size l (some ⟨b, o, none⟩) b o) (hp : p < l.length) (hcap : l.length ≤ cap) (hmax : l.length ≤ 281474976710656) :
    Calls Tryd.prog 21 #[.slice (some ⟨b, o, none⟩) l.length cap, .int .i64 p] w (OnePost l p w) := by
  cases hs : smallB l[p]
  · cases hd : digitB l[p]
    · exact one_sign l b o cap p w hsb hp hcap hmax hs hd
    · exact one_num l b o cap p w hsb hp hcap hmax hs hd
  · exact one_word l b o cap p w hsb hp hcap hmax hs
end Go.Proofs.YtpcbaokplifcoaaDoor
