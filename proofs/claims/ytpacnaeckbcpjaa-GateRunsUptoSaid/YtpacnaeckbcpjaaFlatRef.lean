/- The reference's Size, may, Check, broad: each answers as its Lean function. -/
import Derived.Test.YtpacnaeckbcpjaaTree
import Derived.Test.YtpacnaeckbcpjaaChecked
namespace Go.Proofs.Ytpacnaeckbcpjaa
open Go.RowKit Go.Chalk

set_option maxHeartbeats 400000 in
theorem size_any (n : Nat) : ∀ (t : Tr) (x : Value) (w : World), t.size ≤ n → t.size ≤ 2000000 → TreeV w (· < w.heap.size) t x →
    Calls Try.prog 11 #[x] w fun e w' => e = .returned (.int .i64 t.size) ∧ Below w.heap.size w w' := by
  induction n with
  | zero => intro t _ _ h; have := size_pos t; omega
  | succ n ih =>
    intro t x w hn hs ht
    obtain ⟨kind, v, k, l⟩ := t
    obtain ⟨a, b, o, cap, rfl, hsl, _, _, _, _, _, hl⟩ := ht.open
    rw [Tr.size] at hn hs ⊢
    have hll := length_le_sizes l
    have IH := Lib.hid ih
    have HL := Lib.hid hl
    clear ih hl ht
    go_enter Try.func11, Try.ntmps11
    go_wp2_with fail
    go_loopw [3, 4] (fun s i wr => ∃ j : Nat, j ≤ l.length ∧ i = .int .i64 j ∧ s = .int .i64 (1 + sizes (l.take j) : Nat) ∧ Below w.heap.size w wr ∧ w.heap.size < wr.heap.size ∧ wr.cell? ⟨w.heap.size, 3, none⟩ = some (.slice a l.length cap)) (fun _ i _ => l.length - (intOf i).toNat)
    case atStart =>
      exact ⟨0, Nat.zero_le _, rfl, rfl, (Below.refl _ _).alloc (Nat.le_refl _) _, by simp, by simp [go_sem]⟩
    case round =>
      obtain ⟨j, hj, rfl, rfl, hb, hz, hc⟩ := hrel
      have hst := sizes_take_le l j
      by_cases hlt : j < l.length
      · obtain ⟨rfl, hbl⟩ := hsl (by omega)
        obtain ⟨k0, k1, k2, a1, n1, cap1, e0, e1, e2, e3, htj⟩ := TreesIn.at HL.out hb hbl j hlt
        have hs1 := size_le_sizes l j hlt
        have hs2 := sizes_take_le l (j + 1)
        have HS := Lib.hid (sizes_take_succ l j hlt)
        have hs3 := sizes_take_succ l j hlt
        go_wp2_with fail
        refine (IH.out _ _ _ (by omega) (by omega) (htj.later hb (by omega))).mono ?_
        rintro e w' ⟨rfl, hb'⟩
        have hc' := (hb'.cell (p := ⟨w.heap.size, 3, none⟩) hz).trans hc
        go_wp2_with fail
        refine ⟨⟨j + 1, by omega, by go_num, ?_, hb.trans (hb'.mono (by omega)), by have := hb'.size; omega, hc'⟩, by simp [intOf]; omega⟩
        rw [HS.out]; go_num
      · go_wp2_with fail
        go_ret
        exact ⟨by rw [List.take_of_length_le (by omega)]; first | rfl | go_num, hb⟩

set_option maxHeartbeats 400000 in
theorem broad_any (n : Nat) : ∀ (t : Tr) (x : Value) (w : World), t.size ≤ n → t.size ≤ 2000000 → TreeV w (· < w.heap.size) t x →
    Calls Try.prog 31 #[x] w fun e w' => e = .returned (.bool (wideB t)) ∧ Below w.heap.size w w' := by
  induction n with
  | zero => intro t _ _ h; have := size_pos t; omega
  | succ n ih =>
    intro t x w hn hs ht
    obtain ⟨kind, v, k, l⟩ := t
    obtain ⟨a, b, o, cap, rfl, hsl, _, _, _, _, _, hl⟩ := ht.open
    rw [Tr.size] at hn hs
    have hll := length_le_sizes l
    have IH := Lib.hid ih
    have HL := Lib.hid hl
    clear ih hl ht
    rw [wideB]
    go_enter Try.func31, Try.ntmps31
    go_wp2_with fail
    go_loopw [8, 4] (fun i _ wr => ∃ j : Nat, j ≤ l.length ∧ i = .int .i64 j ∧ Hid (wideAny (l.take j) = false) ∧ Below w.heap.size w wr ∧ w.heap.size < wr.heap.size ∧ wr.cell? ⟨w.heap.size, 3, none⟩ = some (.slice a l.length cap)) (fun i _ _ => l.length - (intOf i).toNat)
    case atStart => exact ⟨0, Nat.zero_le _, rfl, by simp [Hid, wideAny], (Below.refl _ _).alloc (Nat.le_refl _) _, by simp, by simp [go_sem]⟩
    case round =>
      obtain ⟨j, hj, rfl, HM, hb, hz, hc⟩ := hrel
      by_cases hlt : j < l.length
      · obtain ⟨rfl, hbl⟩ := hsl (by omega)
        obtain ⟨k0, k1, k2, a1, n1, cap1, e0, e1, e2, e3, htj⟩ := TreesIn.at HL.out hb hbl j hlt
        have hs1 := size_le_sizes l j hlt
        have HM1 := Lib.hid (wideAny_take_succ l j hlt)
        have HM2 := Lib.hid (wideAny_true l j hlt)
        go_wp2_with fail
        refine (IH.out _ _ _ (by omega) (by omega) (htj.later (hb.trans (((Below.refl _ wr).alloc (by omega) _))) (by simp; omega))).mono ?_
        rintro e w' ⟨rfl, hb'⟩
        have hbb : Below wr.heap.size wr w' := ((Below.refl _ wr).alloc (Nat.le_refl _) _).trans (hb'.mono (by simp))
        have hc' := (hbb.cell (p := ⟨w.heap.size, 3, none⟩) hz).trans hc
        generalize wideB l[j] = r at HM1 HM2 ⊢
        cases r
        · go_wp2_with fail
          exact ⟨⟨j + 1, by omega, by go_num, by rw [Hid, HM1.out, HM.out]; rfl, hb.trans (hbb.mono (by omega)), by have := hbb.size; omega, hc'⟩, by simp [intOf]; omega⟩
        · go_wp2_with fail
          go_ret
          exact ⟨ret_bool (by rw [HM2.out (by first | rfl | trivial)]; simp), hb.trans (hbb.mono (by omega))⟩
      · go_wp2_with fail
        go_ret
        have HX := HM.out
        rw [List.take_of_length_le (by omega)] at HX
        exact ⟨ret_bool (by rw [HX, Bool.or_false]; exact decide_eq_decide.2 (by omega)), hb⟩

set_option maxHeartbeats 400000 in
theorem check_ref (t : Tr) (x : Value) (m : Int) (w : World) (hs : t.size ≤ 2000000) (ht : TreeV w (· < w.heap.size) t x)
    (hsize : ∀ w, TreeV w (· < w.heap.size) t x → Calls Try.prog 11 #[x] w fun e w' => e = .returned (.int .i64 t.size) ∧ Below w.heap.size w w')
    (hmay : ∀ w, TreeV w (· < w.heap.size) t x → Calls Try.prog 55 #[x, .int .i64 m] w fun e w' => e = .returned (.bool (mayB t m)) ∧ Below w.heap.size w w') :
    Calls Try.prog 30 #[x, .int .i64 m] w fun e w' => e = .returned (.int .i64 (checkE t m)) ∧ Below w.heap.size w w' := by
  have H1 := Lib.hid hsize
  have H2 := Lib.hid hmay
  clear hsize hmay
  have HT := Lib.hid ht
  obtain ⟨c0, c1, c2, c3, rfl, h⟩ := ht
  obtain ⟨k0, k1, k2, a1, n1, cap1, rfl, rfl, rfl, rfl⟩ := TreeV.shape h
  clear h
  by_cases h0 : m < 0
  · go_enter Try.func30, Try.ntmps30
    go_wp2_with fail
    go_ret
    exact ⟨ret_int (by simp [checkE, h0]), (Below.refl _ _).alloc (Nat.le_refl _) _⟩
  by_cases h1 : 65536 < m
  · go_enter Try.func30, Try.ntmps30
    go_wp2_with fail
    go_ret
    exact ⟨ret_int (by simp [checkE, h1]), (Below.refl _ _).alloc (Nat.le_refl _) _⟩
  go_enter Try.func30, Try.ntmps30
  go_wp2_with fail
  refine (H2.out _ (HT.out.later ((Below.refl _ _).alloc (Nat.le_refl _) _) (by simp))).mono ?_
  rintro e w1 ⟨rfl, hb1⟩
  have hbb := Below.ahead hb1 (by simp)
  obtain ⟨q0, q1, q2, q3⟩ := boxed4 hb1 (by simp)
  generalize hm : mayB t m = r
  have HM := Lib.hid hm
  clear hm
  cases r
  · go_wp2_with fail
    go_ret
    exact ⟨ret_int (by simp [checkE, HM.out]), hbb⟩
  · go_wp2_with fail
    refine (H1.out _ (HT.out.later hbb hbb.size)).mono ?_
    rintro e w2 ⟨rfl, hb2⟩
    have hbc := hbb.trans (hb2.mono hbb.size)
    by_cases h2 : 65536 < t.size
    · have h2' : (65536 : Int) < (t.size : Int) := by omega
      go_wp2_with fail
      go_ret
      exact ⟨ret_int (by simp [checkE, HM.out, h2]; omega), hbc⟩
    · have h2' : ¬ (65536 : Int) < (t.size : Int) := by omega
      go_wp2_with fail
      go_ret
      exact ⟨ret_int (by simp [checkE, HM.out, h2]; omega), hbc⟩

end Go.Proofs.Ytpacnaeckbcpjaa
