/- The reference's may: it answers as its Lean function. -/
import Derived.Test.YtpacnaeckbcpjaaTree
import Derived.Test.YtpacnaeckbcpjaaChecked
namespace Go.Proofs.Ytpacnaeckbcpjaa
open Go.RowKit Go.Chalk

set_option maxRecDepth 100000 in
set_option maxHeartbeats 1000000 in
theorem may_any (n : Nat) : ∀ (t : Tr) (x : Value) (m : Int) (w : World), t.size ≤ n → t.size ≤ 2000000 → TreeV w (· < w.heap.size) t x →
    Calls Try.prog 55 #[x, .int .i64 m] w fun e w' => e = .returned (.bool (mayB t m)) ∧ Below w.heap.size w w' := by
  induction n with
  | zero => intro t _ _ _ h; have := size_pos t; omega
  | succ n ih =>
    intro t x m w hn hs ht
    obtain ⟨kind, v, k, l⟩ := t
    obtain ⟨a, b, o, cap, rfl, hsl, _, _, _, _, _, hl⟩ := ht.open
    rw [Tr.size] at hn hs
    have hll := length_le_sizes l
    have IH := Lib.hid ih
    have HL := Lib.hid hl
    clear ih hl ht
    rw [mayB]
    by_cases hnode : nodeOk (.mk kind v k l) m = true
    · have hcs := nodeOk_true hnode
      rw [hnode, Bool.true_and]
      clear hnode
      rcases hcs with ⟨rfl, rfl, rfl, hl0⟩ | ⟨rfl, rfl, rfl, hl0⟩ | ⟨rfl, hv1, hv2, rfl, hl0⟩ | ⟨rfl, rfl, rfl, hl1⟩ | ⟨rfl, rfl, rfl⟩ | ⟨rfl, rfl, rfl⟩ | ⟨rfl, rfl, hk1, hk2⟩
      all_goals
        go_enter Try.func55, Try.ntmps55
        go_wp2_with fail
        go_loopw [5] (fun i wr => ∃ j : Nat, j ≤ l.length ∧ i = .int .i64 j ∧ Hid (mayAll (l.take j) m = true) ∧ Below w.heap.size w wr ∧ w.heap.size < wr.heap.size ∧ wr.cell? ⟨w.heap.size, 3, none⟩ = some (.slice a l.length cap)) (fun i _ => l.length - (intOf i).toNat)
        case atStart => exact ⟨0, Nat.zero_le _, rfl, by simp [Hid, mayAll], (Below.refl _ _).alloc (Nat.le_refl _) _, by simp, by simp [go_sem]⟩
        case round =>
          obtain ⟨j, hj, rfl, HM, hb, hz, hc⟩ := hrel
          by_cases hlt : j < l.length
          · obtain ⟨rfl, hbl⟩ := hsl (by omega)
            obtain ⟨k0, k1, k2, a1, n1, cap1, e0, e1, e2, e3, htj⟩ := TreesIn.at HL.out hb hbl j hlt
            have hs1 := size_le_sizes l j hlt
            have HM1 := Lib.hid (mayAll_take_succ l m j hlt)
            have HM2 := Lib.hid (mayAll_false l m j hlt)
            go_wp2_with fail
            refine (IH.out _ _ _ _ (by omega) (by omega) (htj.later hb (by omega))).mono ?_
            rintro e w' ⟨rfl, hb'⟩
            have hc' := (hb'.cell (p := ⟨w.heap.size, 3, none⟩) hz).trans hc
            generalize mayB l[j] m = r at HM1 HM2 ⊢
            cases r
            · go_wp2_with fail
              go_ret
              exact ⟨by rw [HM2.out (by first | rfl | trivial)]; rfl, hb.trans (hb'.mono (by omega))⟩
            · go_wp2_with fail
              exact ⟨⟨j + 1, by omega, by go_num, by rw [Hid, HM1.out, HM.out]; rfl, hb.trans (hb'.mono (by omega)), by have := hb'.size; omega, hc'⟩, by simp [intOf]; omega⟩
          · go_wp2_with fail
            go_ret
            have HM := HM.out
            rw [List.take_of_length_le (by omega)] at HM
            exact ⟨by rw [HM]; rfl, hb⟩
    · have hnode : nodeOk (.mk kind v k l) m = false := by simpa using hnode
      have hcs := nodeOk_false hnode
      rw [hnode, Bool.false_and]
      clear hnode
      rcases hcs with ⟨rfl, hx⟩ | ⟨rfl, hx⟩ | ⟨rfl, hx⟩ | ⟨rfl, hx⟩ | ⟨rfl, hx⟩ | ⟨rfl, hx⟩ | ⟨hx1, hx2, hx3, hx4, hx5, hx6⟩
      all_goals
        go_enter Try.func55, Try.ntmps55
        go_wp2_with fail
      all_goals first
        | (go_ret; exact ⟨rfl, (Below.refl _ _).alloc (Nat.le_refl _) _⟩)
        | (exfalso; omega)
        | (exfalso; simp only [bne_eq_false_iff_eq] at *; omega)

end Go.Proofs.Ytpacnaeckbcpjaa
