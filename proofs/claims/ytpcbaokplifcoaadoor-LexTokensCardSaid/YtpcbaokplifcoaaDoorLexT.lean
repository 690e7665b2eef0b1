/- The reference: pass. -/
import Derived.Test.YtpcbaokplifcoaaDoorLexS
namespace Go.Chalk
open Go.RowKit Go.Proofs.YtpcbaokplifcoaaDoor
/-- What pass gives: the next place at which a token may stand. -/
structure PassTo (l : Bs) (p p' : Nat) : Prop where
  le : p ≤ p'
  le' : p' ≤ l.length
  same : ∀ acc, lexS (l.drop p) p acc = lexS (l.drop p') p' acc
theorem PassTo.refl {l : Bs} {p : Nat} (h : p ≤ l.length) : PassTo l p p := ⟨Nat.le_refl _, h, fun _ => rfl⟩
theorem PassTo.white {l : Bs} {p p' : Nat} (h : PassTo l p p') (hlt : p' < l.length) (hw : whiteB l[p'] = true) : PassTo l p (p' + 1) :=
  ⟨by have := h.le; omega, hlt, fun acc => by rw [h.same acc, List.drop_eq_getElem_cons hlt, lexS_white hw]⟩
/-- From q on to k no line ends. -/
def NoLine (l : Bs) (q k : Nat) : Prop := ∀ i (h : i < l.length), q ≤ i → i < k → lineB l[i] = false
theorem takeWhile_upto : ∀ (m : Bs) (n : Nat) (q : UInt8 → Bool), n ≤ m.length → (∀ i (h : i < m.length), i < n → q m[i] = true) → (∀ h : n < m.length, q m[n] = false) → (m.takeWhile q).length = n
  | [], n, _, hn, _, _ => by simp at hn; simp [hn]
  | c :: r, 0, q, _, _, h2 => by
    have := h2 (by simp)
    simp only [List.getElem_cons_zero] at this
    rw [List.takeWhile_cons, this]; rfl
  | c :: r, n + 1, q, hn, h1, h2 => by
    have h0 := h1 0 (by simp) (by omega)
    simp only [List.getElem_cons_zero] at h0
    rw [List.takeWhile_cons, h0]
    simp only [if_true, List.length_cons, Nat.add_right_cancel_iff]
    refine takeWhile_upto r n q (by simpa using hn) (fun i h hi => ?_) (fun h => ?_)
    · have := h1 (i + 1) (by simpa using h) (by omega)
      simpa using this
    · have := h2 (by simpa using h)
      simpa using this
theorem PassTo.remark {l : Bs} {p q k : Nat} (h : PassTo l p q) (hlt : q < l.length) (hh : hashB l[q] = true) (hqk : q ≤ k) (hk : k ≤ l.length) (hno : NoLine l q k) (hend : ∀ h : k < l.length, lineB l[k] = true) : PassTo l p k := by
  refine ⟨by have := h.le; omega, hk, fun acc => ?_⟩
  have htw : ((l.drop q).takeWhile (fun x => !lineB x)).length = k - q := by
    refine takeWhile_upto _ _ _ (by rw [List.length_drop]; omega) (fun i hi hik => ?_) (fun hi => ?_)
    · rw [List.getElem_drop]
      rw [List.length_drop] at hi
      have := hno (q + i) (by omega) (by omega) (by omega)
      rw [this]; rfl
    · rw [List.getElem_drop]
      rw [List.length_drop] at hi
      have := hend (by omega)
      have e : q + (k - q) = k := by omega
      simp only [e, this]; rfl
  have hdw := drop_run (fun x => !lineB x) (l.drop q)
  rw [h.same acc, List.drop_eq_getElem_cons hlt, lexS_hash hh, ← List.drop_eq_getElem_cons hlt, htw, ← hdw, htw, List.drop_drop, show q + (k - q) = k from by omega]
def PassPost (l : Bs) (p : Nat) (w : World) (e : Ending) (w' : World) : Prop := ∃ p' : Nat, e = .returned (.int .i64 p') ∧ PassTo l p p' ∧ (∀ h : p' < l.length, whiteB l[p'] = false ∧ hashB l[p'] = false) ∧ w' = w
end Go.Chalk
namespace Go.Proofs.YtpcbaokplifcoaaDoor
open Go.RowKit Go.Chalk

set_option maxRecDepth 100000 in
set_option maxHeartbeats 1000000 in
theorem pass_any (l : Bs) (a : Option Addr) (b o cap : Nat) (p : Nat) (w : World) (hsb : SB w w.heap.size l a b o) (hp : p ≤ l.length) (hmax : l.length ≤ 281474976710656) :
    Calls Tryd.prog 20 #[.slice a l.length cap, .int .i64 p] w (PassPost l p w) := by
  have HSB := Lib.hid hsb
  clear hsb
  go_enter Tryd.func20, Tryd.ntmps20
  go_wp2_with fail
  go_loop [1] (fun i => ∃ q : Nat, i = .int .i64 q ∧ q ≤ l.length ∧ PassTo l p q) (fun i => l.length - (intOf i).toNat)
  case atStart => exact ⟨p, rfl, hp, PassTo.refl hp⟩
  case round =>
    obtain ⟨q, rfl, hq, hP⟩ := hrel
    have HP := Lib.hid hP
    clear hP
    by_cases hlt : q < l.length
    · obtain ⟨rfl, hbl⟩ := HSB.out.1 (by omega)
      have hcl := HSB.out.2 q hlt
      by_cases hw : whiteB l[q] = true
      · have HP2 := Lib.hid (HP.out.white hlt hw)
        rcases white_three hw with h | h | h
        all_goals
          rw [h] at hcl
          clear h hw
          go_wp2_with fail
          go_round
          case rel => exact ⟨q + 1, by go_num, by omega, HP2.out⟩
          case measure => simp [intOf]; omega
      · simp only [Bool.not_eq_true] at hw
        by_cases hh : hashB l[q] = true
        · have h35 : l[q].toNat = 35 := by simpa [hashB] using hh
          rw [h35] at hcl
          have HHH := Lib.hid hh
          clear hw hh h35
          go_wp2_with fail
          go_loop [1] (fun i => ∃ k : Nat, i = .int .i64 k ∧ q ≤ k ∧ k ≤ l.length ∧ Hid (NoLine l q k)) (fun i => l.length - (intOf i).toNat)
          case atStart => exact ⟨q, rfl, Nat.le_refl _, hq, fun i _ h1 h2 => by omega⟩
          case round =>
            obtain ⟨k, rfl, hqk, hk, HNL⟩ := hrel
            by_cases hkl : k < l.length
            · have hck := HSB.out.2 k hkl
              cases hln : lineB l[k]
              · have hne : ((l[k].toNat : Int) != 10) = true := by
                  simp only [lineB, beq_eq_false_iff_ne] at hln
                  rw [bne_iff_ne]; omega
                have HN2 : Hid (NoLine l q (k + 1)) := fun i hi h1 h2 => by
                  rcases Nat.lt_succ_iff_lt_or_eq.1 h2 with h | rfl
                  · exact HNL.out i hi h1 h
                  · exact hln
                clear hln
                generalize (l[k].toNat : Int) = ck at *
                go_wp2_with fail
                go_round
                case rel => exact ⟨k + 1, by go_num, by omega, by omega, HN2.out⟩
                case measure => simp [intOf]; omega
              · have HP2 := Lib.hid (HP.out.remark hlt HHH.out hqk hk HNL.out (fun _ => hln))
                have h10 : l[k].toNat = 10 := by simpa [lineB] using hln
                have hqk2 : q < k := by
                  rcases Nat.lt_or_eq_of_le hqk with h | rfl
                  · exact h
                  · have h35 : l[q].toNat = 35 := by simpa [hashB] using HHH.out
                    omega
                rw [h10] at hck
                clear hln h10
                go_wp2_with fail
                go_round
                case rel => exact ⟨k, rfl, hk, HP2.out⟩
                case measure => simp [intOf]; omega
            · have HP2 := Lib.hid (HP.out.remark hlt HHH.out hqk hk HNL.out (fun h => absurd h hkl))
              go_wp2_with fail
              go_round
              case rel => exact ⟨k, rfl, hk, HP2.out⟩
              case measure => simp [intOf]; omega
        · simp only [Bool.not_eq_true] at hh
          have h32 : ((l[q].toNat : Int) == 32) = false := by simp only [whiteB, Bool.or_eq_false_iff, beq_eq_false_iff_ne] at hw; simp; omega
          have h9 : ((l[q].toNat : Int) == 9) = false := by simp only [whiteB, Bool.or_eq_false_iff, beq_eq_false_iff_ne] at hw; simp; omega
          have h10 : ((l[q].toNat : Int) == 10) = false := by simp only [whiteB, Bool.or_eq_false_iff, beq_eq_false_iff_ne] at hw; simp; omega
          have h35 : ((l[q].toNat : Int) == 35) = false := by simp only [hashB, beq_eq_false_iff_ne] at hh; simp; omega
          have HFIN : Hid (PassPost l p w (.returned (.int .i64 (q : Int))) w) := ⟨q, rfl, HP.out, fun _ => ⟨hw, hh⟩, rfl⟩
          clear hw hh
          generalize (l[q].toNat : Int) = cq at *
          go_wp2_with fail
          go_ret
          exact HFIN.out
    · have HFIN : Hid (PassPost l p w (.returned (.int .i64 (q : Int))) w) := ⟨q, rfl, HP.out, fun h => absurd h hlt, rfl⟩
      go_wp2_with fail
      go_ret
      exact HFIN.out
end Go.Proofs.YtpcbaokplifcoaaDoor
