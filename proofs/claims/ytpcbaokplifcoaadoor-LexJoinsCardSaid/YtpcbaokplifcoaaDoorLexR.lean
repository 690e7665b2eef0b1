/- The reference: letter, digit, inner, Word, Numeral, Signs, Sign. -/
import Derived.Test.YtpcbaokplifcoaaDoorLexH
import Derived.Test.YtpcbaokplifcoaaDoorLexProps3
namespace Go.Chalk
open Go.RowKit Go.Proofs.YtpcbaokplifcoaaDoor
theorem toList_getElem (s : ByteArray) (k : Nat) (h : k < s.size) : s.data.toList[k]'(by simpa using h) = s[k] := rfl
theorem take_next (s : ByteArray) (k : Nat) (h : k < s.size) : s.data.toList.take (k + 1) = s.data.toList.take k ++ [s[k]] := by
  rw [List.take_succ_eq_append_getElem (by simpa using h)]; rfl
theorem size_list (s : ByteArray) : s.data.toList.length = s.size := by simp
theorem word_spec {s : ByteArray} (h : s.data.toList.all innerB = true) : wordB s.data.toList = (decide ((1 : Int) ≤ (s.size : Int)) && decide ((s.size : Int) ≤ 64) && (if h : 0 < s.size then smallB s[0] else false)) := by
  have hl := size_list s
  by_cases h0 : 0 < s.size
  · have hd : s.data.toList = s[0] :: s.data.toList.drop 1 := by
      have := List.drop_eq_getElem_cons (l := s.data.toList) (i := 0) (by omega)
      rw [List.drop_zero] at this
      exact this
    rw [hd] at h hl ⊢
    rw [wordB, h, hl]
    simp only [h0, dite_true]
    have e1 : decide ((1 : Int) ≤ (s.size : Int)) = true := by simp; omega
    have e2 : decide ((s.size : Int) ≤ 64) = decide (s.size ≤ 64) := by rw [Bool.eq_iff_iff]; simp only [decide_eq_true_eq]; omega
    rw [e1, e2]
    cases smallB s[0] <;> simp
  · have : s.data.toList = [] := List.length_eq_zero_iff.1 (by omega)
    rw [this]
    have e1 : decide ((1 : Int) ≤ (s.size : Int)) = false := by simp; omega
    rw [e1]; rfl
theorem fold_ge : ∀ (l : Bs) (a : Nat), a * 10 ^ l.length ≤ l.foldl (fun n c => 10 * n + (c.toNat - 48)) a
  | [], a => by simp
  | c :: r, a => by
    rw [List.foldl_cons, List.length_cons, Nat.pow_succ]
    refine Nat.le_trans ?_ (fold_ge r _)
    rw [Nat.mul_comm (10 ^ r.length) 10, ← Nat.mul_assoc, Nat.mul_comm a 10]
    exact Nat.mul_le_mul_right _ (by omega)
theorem val_long {c : UInt8} {r : Bs} (h : digitB c = true) (h0 : c.toNat ≠ 48) (hl : 13 ≤ r.length) : 1099511627776 < valD (c :: r) := by
  unfold valD
  rw [List.foldl_cons]
  simp only [digitB, Bool.and_eq_true, decide_eq_true_eq] at h
  have h1 := fold_ge r (10 * 0 + (c.toNat - 48))
  have h2 : (10 : Nat) ^ 13 ≤ 10 ^ r.length := Nat.pow_le_pow_right (by decide) hl
  have h3 : 1 * 10 ^ r.length ≤ (10 * 0 + (c.toNat - 48)) * 10 ^ r.length := Nat.mul_le_mul_right _ (by omega)
  have h4 : (10 : Nat) ^ 13 = 10000000000000 := by decide
  omega
theorem val_snoc (l : Bs) (c : UInt8) : valD (l ++ [c]) = 10 * valD l + (c.toNat - 48) := by unfold valD; rw [List.foldl_append]; rfl
theorem val_bound : ∀ (n : Nat) (l : Bs), l.length = n → l.all digitB = true → valD l < 10 ^ n
  | 0, l, hn, _ => by rw [List.length_eq_zero_iff.1 hn]; decide
  | n + 1, l, hn, h => by
    rcases List.eq_nil_or_concat l with rfl | ⟨m, c, rfl⟩
    · simp at hn
    · rw [List.concat_eq_append] at *
      rw [List.all_append, Bool.and_eq_true] at h
      have ih := val_bound n m (by simpa using hn) h.1
      have hc : digitB c = true := by simpa using h.2
      simp only [digitB, Bool.and_eq_true, decide_eq_true_eq] at hc
      rw [val_snoc, Nat.pow_succ]; omega
theorem num_spec {l : Bs} (h : l.all digitB = true) (h1 : 1 ≤ l.length) (h2 : l.length ≤ 13) (hz : l.length = 1 ∨ (l[0]'(by omega)).toNat ≠ 48) : numB l = decide ((valD l : Int) ≤ 1099511627776) := by
  match l, h, h1, h2, hz with
  | c :: r, h, _, _, hz =>
    rw [numB, h]
    have e : (r.isEmpty || c.toNat != 48) = true := by
      rcases hz with hz | hz
      · have : r = [] := List.length_eq_zero_iff.1 (by simpa using hz)
        rw [this]; rfl
      · have : (c.toNat != 48) = true := by simpa using hz
        rw [this]; simp
    rw [e]
    rw [Bool.eq_iff_iff]; simp only [Bool.true_and, decide_eq_true_eq]; omega
theorem num_long {l : Bs} (h : 13 < l.length) : numB l = false := by
  match l, h with
  | c :: r, h =>
    rw [numB]
    cases hd : (c :: r).all digitB
    · simp
    · cases hz : (r.isEmpty || c.toNat != 48)
      · simp
      · have hr : r.isEmpty = false := by cases r <;> simp at h ⊢
        rw [hr] at hz
        have hc : digitB c = true := by
          rw [List.all_cons, Bool.and_eq_true] at hd; exact hd.1
        have := val_long hc (by simpa using hz) (Nat.le_of_lt_succ h)
        simp; omega
theorem num_zero {l : Bs} (h : 1 < l.length) (hz : (l[0]'(by omega)).toNat = 48) : numB l = false := by
  match l, h, hz with
  | c :: d :: r, _, hz =>
    have hz' : c.toNat = 48 := hz
    rw [numB]; simp [hz']
theorem num_bad {l : Bs} (h : l.all digitB = false) : numB l = false := by
  match l, h with
  | [], h => simp at h
  | c :: r, h => rw [numB, h]; simp
end Go.Chalk
namespace Go.Proofs.YtpcbaokplifcoaaDoor
open Go.RowKit Go.Chalk

theorem letter_any (c : UInt8) (w : World) : Calls Tryd.prog 32 #[.int .u8 (c.toNat : Int)] w fun e w' => e = .returned (.bool (smallB c)) ∧ w' = w := by
  have e1 : smallB c = (decide ((97 : Int) ≤ (c.toNat : Int)) && decide ((c.toNat : Int) ≤ 122)) := by
    unfold smallB; rw [Bool.eq_iff_iff]; simp only [Bool.and_eq_true, decide_eq_true_eq]; omega
  rw [e1]
  clear e1
  generalize (c.toNat : Int) = n
  cases h1 : decide ((97 : Int) ≤ n)
  · go_enter Tryd.func32, Tryd.ntmps32
    go_wp2_with fail
    go_ret
    exact ⟨by simp, rfl⟩
  · go_enter Tryd.func32, Tryd.ntmps32
    go_wp2_with fail
    go_ret
    exact ⟨by simp, rfl⟩
theorem digit_any (c : UInt8) (w : World) : Calls Tryd.prog 35 #[.int .u8 (c.toNat : Int)] w fun e w' => e = .returned (.bool (digitB c)) ∧ w' = w := by
  have e1 : digitB c = (decide ((48 : Int) ≤ (c.toNat : Int)) && decide ((c.toNat : Int) ≤ 57)) := by
    unfold digitB; rw [Bool.eq_iff_iff]; simp only [Bool.and_eq_true, decide_eq_true_eq]; omega
  rw [e1]
  clear e1
  generalize (c.toNat : Int) = n
  cases h1 : decide ((48 : Int) ≤ n)
  · go_enter Tryd.func35, Tryd.ntmps35
    go_wp2_with fail
    go_ret
    exact ⟨by simp, rfl⟩
  · go_enter Tryd.func35, Tryd.ntmps35
    go_wp2_with fail
    go_ret
    exact ⟨by simp, rfl⟩
theorem inner_any (c : UInt8) (w : World) : Calls Tryd.prog 33 #[.int .u8 (c.toNat : Int)] w fun e w' => e = .returned (.bool (innerB c)) ∧ w' = w := by
  have e1 : innerB c = (smallB c || digitB c || ((c.toNat : Int) == 95)) := by
    unfold innerB
    have : (c.toNat == 95) = ((c.toNat : Int) == 95) := by rw [Bool.eq_iff_iff]; simp only [beq_iff_eq]; omega
    rw [this]
  rw [e1]
  have HL := Lib.hid (letter_any c w)
  have HD := Lib.hid (digit_any c w)
  clear e1
  generalize (c.toNat : Int) = n at *
  cases h1 : smallB c
  · rw [h1] at HL
    cases h2 : digitB c
    · rw [h2] at HD
      clear h1 h2
      go_enter Tryd.func33, Tryd.ntmps33
      go_wp2_with (first | (go_at_call 32; refine HL.out.mono ?_; rintro e w' ⟨rfl, rfl⟩) | (go_at_call 35; refine HD.out.mono ?_; rintro e w' ⟨rfl, rfl⟩))
      go_ret
      exact ⟨by simp, rfl⟩
    · rw [h2] at HD
      clear h1 h2
      go_enter Tryd.func33, Tryd.ntmps33
      go_wp2_with (first | (go_at_call 32; refine HL.out.mono ?_; rintro e w' ⟨rfl, rfl⟩) | (go_at_call 35; refine HD.out.mono ?_; rintro e w' ⟨rfl, rfl⟩))
      go_ret
      exact ⟨by simp, rfl⟩
  · rw [h1] at HL
    clear h1
    go_enter Tryd.func33, Tryd.ntmps33
    go_wp2_with (first | (go_at_call 32; refine HL.out.mono ?_; rintro e w' ⟨rfl, rfl⟩))
    go_ret
    exact ⟨by simp, rfl⟩

set_option maxRecDepth 100000 in
theorem wordR_any (s : ByteArray) (w : World) (hs : s.size ≤ 281474976710656) : Calls Tryd.prog 34 #[.string s] w fun e w' => e = .returned (.bool (wordB s.data.toList)) ∧ w' = w := by
  have HFL : Hid (∀ k (h : k < s.size), innerB s[k] = false → wordB s.data.toList = false) := fun k h hi => by
    cases hl : s.data.toList with
    | nil => rfl
    | cons c r =>
      rw [wordB]
      have : (c :: r).all innerB = false := List.all_eq_false.2 ⟨s[k], by rw [← hl, ← toList_getElem s k h]; exact List.getElem_mem _, by simp [hi]⟩
      rw [this]; simp
  have HWS := Lib.hid (word_spec (s := s))
  go_enter Tryd.func34, Tryd.ntmps34
  go_wp2_with fail
  go_loop [6, 3] (fun i _ => ∃ k : Nat, k ≤ s.size ∧ i = .int .i64 k ∧ Hid ((s.data.toList.take k).all innerB = true)) (fun i _ => s.size - (intOf i).toNat)
  case atStart => exact ⟨0, Nat.zero_le _, rfl, rfl⟩
  case round =>
    obtain ⟨k, hk, rfl, HA⟩ := hrel
    by_cases hlt : k < s.size
    · have HC := Lib.hid (inner_any s[k] w)
      have HT : Hid ((s.data.toList.take (k + 1)).all innerB = innerB s[k]) := by
        show _ = _
        rw [take_next s k hlt, List.all_append, HA.out]; simp
      have HF2 := Lib.hid (HFL.out k hlt)
      cases hi : innerB s[k]
      · rw [hi] at HC HF2
        clear hi
        go_wp2_with fail
        refine HC.out.mono ?_
        rintro e w' ⟨rfl, rfl⟩
        go_wp2_with fail
        go_ret
        exact ⟨by rw [HF2.out (by first | rfl | trivial)]; rfl, rfl⟩
      · rw [hi] at HC HT
        clear hi HF2
        go_wp2_with fail
        refine HC.out.mono ?_
        rintro e w' ⟨rfl, rfl⟩
        go_wp2_with fail
        go_round
        case rel => exact ⟨k + 1, by omega, by go_num, HT.out⟩
        case measure => simp [intOf]; omega
    · have hall := HA.out
      rw [List.take_of_length_le (by rw [size_list]; omega)] at hall
      have hws := HWS.out hall
      obtain rfl : k = s.size := by omega
      by_cases h0 : 0 < s.size
      · simp only [h0, dite_true] at hws
        have HL := Lib.hid (letter_any s[0] w)
        have e1 : decide ((1 : Int) ≤ (s.size : Int)) = true := by simp; omega
        rw [e1] at hws
        cases e2 : decide ((s.size : Int) ≤ 64)
        · rw [e2] at hws
          have HW := Lib.hid hws
          clear hws hall HFL HWS
          go_wp2_with fail
          go_ret
          exact ⟨by rw [HW.out]; simp, rfl⟩
        · rw [e2] at hws
          have HW := Lib.hid hws
          clear hws hall HFL HWS
          go_wp2_with (go_at_call 32; refine HL.out.mono ?_; rintro e w' ⟨rfl, rfl⟩)
          go_ret
          exact ⟨by rw [HW.out]; simp, rfl⟩
      · have e1 : decide ((1 : Int) ≤ (s.size : Int)) = false := by simp; omega
        rw [e1] at hws
        have HW := Lib.hid hws
        clear hws hall HFL HWS
        go_wp2_with fail
        go_ret
        exact ⟨by rw [HW.out]; simp, rfl⟩

set_option maxRecDepth 100000 in
set_option maxHeartbeats 1000000 in
theorem numR_any (s : ByteArray) (w : World) (hs : s.size ≤ 281474976710656) : Calls Tryd.prog 36 #[.string s] w fun e w' => e = .returned (.bool (numB s.data.toList)) ∧ w' = w := by
  have hl := size_list s
  by_cases h1 : s.size < 1
  · have hf : numB s.data.toList = false := by rw [List.length_eq_zero_iff.1 (by omega : s.data.toList.length = 0)]; rfl
    have e1 : decide ((s.size : Int) < 1) = true := by simp; omega
    rw [hf]
    clear hf hl h1
    go_enter Tryd.func36, Tryd.ntmps36
    go_wp2_with fail
    go_ret
    exact ⟨rfl, rfl⟩
  · have e1 : decide ((s.size : Int) < 1) = false := by simp; omega
    by_cases h2 : 13 < s.size
    · have hf : numB s.data.toList = false := num_long (by omega)
      have e2 : decide ((13 : Int) < (s.size : Int)) = true := by simp; omega
      rw [hf]
      clear hf hl h1 h2
      go_enter Tryd.func36, Tryd.ntmps36
      go_wp2_with fail
      go_ret
      exact ⟨rfl, rfl⟩
    · have e2 : decide ((13 : Int) < (s.size : Int)) = false := by simp; omega
      have h0 : 0 < s.size := by omega
      by_cases h3 : 1 < s.size ∧ s[0].toNat = 48
      · have hf : numB s.data.toList = false := num_zero (by omega) h3.2
        have e3 : decide ((1 : Int) < (s.size : Int)) = true := by simp; omega
        have e4 : ((s[0].toNat : Int) == 48) = true := by simp; omega
        rw [hf]
        clear hf hl h1 h2 h3
        go_enter Tryd.func36, Tryd.ntmps36
        go_wp2_with fail
        go_ret
        exact ⟨rfl, rfl⟩
      · have hz : s.data.toList.length = 1 ∨ (s.data.toList[0]'(by omega)).toNat ≠ 48 := by
          by_cases h4 : 1 < s.size
          · exact .inr (fun h5 => h3 ⟨h4, h5⟩)
          · exact .inl (by omega)
        have HSP := Lib.hid (fun h => num_spec (l := s.data.toList) h (by omega) (by omega) hz)
        have HBD : Hid (∀ k (h : k < s.size), digitB s[k] = false → numB s.data.toList = false) := fun k h hi => num_bad (List.all_eq_false.2 ⟨s[k], by rw [← toList_getElem s k h]; exact List.getElem_mem _, by simp [hi]⟩)
        have hguard : (decide ((1 : Int) < (s.size : Int)) = false) ∨ (decide ((1 : Int) < (s.size : Int)) = true ∧ ((s[0].toNat : Int) == 48) = false) := by
          by_cases h4 : 1 < s.size
          · exact .inr ⟨by simp; omega, by simp; intro h5; exact h3 ⟨h4, by omega⟩⟩
          · exact .inl (by simp; omega)
        have hb13 : s.size ≤ 13 := by omega
        clear hz h1 h2 h3 hl
        have e0 : (s.size : Int) ≤ 13 := by omega
        rcases hguard with e3 | ⟨e3, e4⟩
        all_goals
          go_enter Tryd.func36, Tryd.ntmps36
          go_wp2_with fail
          go_loop [25, 3, 4] (fun i nv _ => ∃ k : Nat, k ≤ s.size ∧ i = .int .i64 k ∧ nv = .int .i64 (valD (s.data.toList.take k) : Int) ∧ Hid ((s.data.toList.take k).all digitB = true)) (fun i _ _ => s.size - (intOf i).toNat)
          case atStart => exact ⟨0, Nat.zero_le _, rfl, rfl, rfl⟩
          case round =>
            obtain ⟨k, hk, rfl, rfl, HA⟩ := hrel
            by_cases hlt : k < s.size
            · have HC := Lib.hid (digit_any s[k] w)
              have hvb := val_bound k (s.data.toList.take k) (by rw [List.length_take, size_list]; omega) HA.out
              have hpw : (10 : Nat) ^ k ≤ 10 ^ 12 := Nat.pow_le_pow_right (by decide) (by omega)
              have hpe : (10 : Nat) ^ 12 = 1000000000000 := by decide
              have HT : Hid ((s.data.toList.take (k + 1)).all digitB = digitB s[k] ∧ valD (s.data.toList.take (k + 1)) = 10 * valD (s.data.toList.take k) + (s[k].toNat - 48)) := by
                show _ ∧ _
                rw [take_next s k hlt, List.all_append, HA.out, val_snoc]; simp
              have HF2 := Lib.hid (HBD.out k hlt)
              have hvb2 : valD (s.data.toList.take k) < 1000000000000 := by omega
              clear hvb hpw hpe
              generalize valD (s.data.toList.take k) = vk at *
              cases hi : digitB s[k]
              · rw [hi] at HC HF2
                clear hi
                go_wp2_with fail
                refine HC.out.mono ?_
                rintro e w' ⟨rfl, rfl⟩
                go_wp2_with fail
                go_ret
                exact ⟨by rw [HF2.out (by first | rfl | trivial)]; rfl, rfl⟩
              · rw [hi] at HC HT
                simp only [digitB, Bool.and_eq_true, decide_eq_true_eq] at hi
                have i1 : (48 : Int) ≤ (s[k].toNat : Int) := by omega
                have i2 : (s[k].toNat : Int) ≤ 57 := by omega
                have HE : Hid ((valD (s.data.toList.take (k + 1)) : Int) = 10 * (vk : Int) + ((s[k].toNat : Int) - 48)) := by
                  show _ = _
                  rw [HT.out.2]; omega
                clear HF2 hi
                go_wp2_with fail
                refine HC.out.mono ?_
                rintro e w' ⟨rfl, rfl⟩
                go_wp2_with fail
                go_round
                case rel => exact ⟨k + 1, by omega, by go_num, by rw [HE.out], HT.out.1⟩
                case measure => simp [intOf]; omega
            · have hall := HA.out
              have htk : s.data.toList.take k = s.data.toList := List.take_of_length_le (by rw [size_list]; omega)
              rw [htk] at hall ⊢
              have HW := Lib.hid (HSP.out hall)
              clear hall htk HSP HBD
              go_wp2_with fail
              go_ret
              exact ⟨by rw [HW.out]; rfl, rfl⟩
end Go.Proofs.YtpcbaokplifcoaaDoor
