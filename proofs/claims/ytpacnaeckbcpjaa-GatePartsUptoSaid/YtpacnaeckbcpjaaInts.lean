/- The reference's Ints on equal lists; the law's few; gate's All. -/
import Derived.Test.YtpacnaeckbcpjaaGates
namespace Go.Proofs.Ytpacnaeckbcpjaa
open Go.RowKit Go.Chalk

set_option maxRecDepth 100000 in
set_option maxHeartbeats 400000 in
theorem ints_eq (xs : List Int) (v1 v2 : Value) (w : World) (h1 : DAt w (· < w.heap.size) (.sl (dints xs)) [v1]) (h2 : DAt w (· < w.heap.size) (.sl (dints xs)) [v2]) :
    Calls Try.prog 18 #[v1, v2] w fun e w' => e = .returned (.bool true) ∧ Below w.heap.size w w' := by
  obtain ⟨a, b, o, cap, he, hs, hl, hm, _, hc⟩ := h1.open_ints
  obtain ⟨a', b', o', cap', he', hs', _, _, _, hc'⟩ := h2.open_ints
  simp only [List.cons.injEq, and_true] at he he'
  subst he he'
  unfold maxLen at hm
  have HC := Lib.hid hc
  have HC' := Lib.hid hc'
  have HS := Lib.hid hs
  have HS' := Lib.hid hs'
  clear hc hc' hs hs' h1 h2
  have z1 : ((xs.length : Int) != (xs.length : Int)) = false := by simp
  go_enter Try.func18, Try.ntmps18
  go_wp2_with fail
  go_loopw [13, 5] (fun i _ wr => ∃ j : Nat, i = .int .i64 j ∧ j ≤ xs.length ∧ Below w.heap.size w wr) (fun i _ _ => xs.length - (intOf i).toNat)
  case atStart => exact ⟨0, rfl, Nat.zero_le _, Below.refl _ _⟩
  case round =>
    obtain ⟨j, rfl, hj, hb⟩ := hrel
    by_cases hlt : j < xs.length
    · obtain ⟨rfl, g1⟩ := HS.out (by omega)
      obtain ⟨rfl, g2⟩ := HS'.out (by omega)
      have e1 := (hb.cell (p := ⟨b, o + j, none⟩) g1).trans (HC.out j hlt)
      have e2 := (hb.cell (p := ⟨b', o' + j, none⟩) g2).trans (HC'.out j hlt)
      have HB := Lib.hid hb
      clear hb
      generalize hy : xs[j] = y at e1 e2
      clear hy
      have z4 : (y != y) = false := by simp
      have i1 : (0 : Int) ≤ (j : Int) := by omega
      have i2 : (j : Int) < (xs.length : Int) := by omega
      go_wp2_with fail
      go_quiet (fail)
      go_wp2_with fail
      go_roundw
      case rel => exact ⟨j + 1, by go_num, by omega, HB.out.os, HB.out.tape, HB.out.output, HB.out.size, HB.out.block⟩
      case measure => simp [intOf]; omega
    · go_wp2_with fail
      go_ret
      exact ⟨rfl, hb⟩

/-- Four results of All. -/
def AllPost (w : World) (r : List Int × List Lin × Int × Int) (e : Ending) (w' : World) : Prop :=
  ∃ vL vS, e = .returned (.tuple #[vL, vS, .int .i64 r.2.2.1, .int .i64 r.2.2.2]) ∧ NewAt w w' (.sl (dints r.1)) [vL] ∧ NewAt w w' (.sl (r.2.1.map Lin.toD)) [vS] ∧ Below w.heap.size w w'

set_option maxRecDepth 100000 in
set_option maxHeartbeats 400000 in
theorem all_any (l : List Tr) (next : Int) (x : Value) (w : World) (hd : DAt w (· < w.heap.size) (.sl (l.map Tr.toD)) [x]) (hsz : sizes l ≤ 200000) :
    Calls Try.prog 16 #[x, .int .i64 next] w (AllPost w (allF l next)) := by
  have HD := Lib.hid hd
  clear hd
  go_enter Try.func16, Try.ntmps16
  go_wp2_with fail
  refine (made_any l next _ _ HD.out hsz).mono ?_
  rintro e w2 ⟨vL, vS, rfl, hL, hS, hb⟩
  obtain ⟨sa, sn, scap, hsv⟩ : ∃ a n cap, vS = .slice a n cap := by
    have h := hS
    rw [NewAt, DAt] at h
    obtain ⟨a, _, _, cap, h, _⟩ := h
    simp at h
    exact ⟨a, _, cap, h⟩
  subst hsv
  have HL := Lib.hid hL
  have HS := Lib.hid hS
  have HB := Lib.hid hb
  clear hL hS hb
  generalize allF l next = g at *
  obtain ⟨g1, g2, g3, g4⟩ := g
  go_wp2_with fail
  go_quiet (fail)
  go_wp2_with fail
  have hb3 : Below w2.heap.size w2 (w2.alloc (.cells #[.slice sa sn scap, .int .i64 g3] 56)) := (Below.refl _ _).alloc (Nat.le_refl _) _
  have hb4 := HB.out.trans (hb3.mono HB.out.size)
  refine bodyPost_ret (v := .tuple #[vL, .slice sa sn scap, .int .i64 g3, .int .i64 g4]) (by simp [results, Try.results16, go_sem]) rfl ?_
  exact ⟨_, _, rfl, new_later (w3 := (w2.alloc _).drewN _) (new_later HL.out hb3) ⟨rfl, rfl, rfl, Nat.le_refl _, fun _ _ => rfl⟩, new_later (w3 := (w2.alloc _).drewN _) (new_later HS.out hb3) ⟨rfl, rfl, rfl, Nat.le_refl _, fun _ _ => rfl⟩, hb4.os, hb4.tape, hb4.output, hb4.size, hb4.block⟩

/-- few: where it says yes, the list is short and its trees are small. -/
def FewPost (l : List Tr) (most : Int) (w : World) (e : Ending) (w' : World) : Prop := ∃ b, e = .returned (.bool b) ∧ (b = true → l.length ≤ 20 ∧ (sizes l : Int) ≤ most) ∧ Below w.heap.size w w'

set_option maxRecDepth 100000 in
set_option maxHeartbeats 400000 in
theorem few_any (l : List Tr) (most : Int) (x : Value) (w : World) (hd : DAt w (· < w.heap.size) (.sl (l.map Tr.toD)) [x]) (hsz : sizes l ≤ 2000000) (hm : 0 ≤ most) :
    Calls Try.prog 15 #[x, .int .i64 most] w (FewPost l most w) := by
  obtain ⟨a, b, o, cap, he, hs, _, _, hc⟩ := Tr.open_slice hd
  simp only [List.cons.injEq, and_true] at he
  subst he
  have hll := length_le_sizes l
  have HC := Lib.hid hc
  have HS := Lib.hid hs
  clear hc hs hd
  go_enter Try.func15, Try.ntmps15
  go_wp2_with fail
  go_loopw [6, 5] (fun i n wr => ∃ j : Nat, i = .int .i64 j ∧ n = .int .i64 (sizes (l.take j)) ∧ j ≤ l.length ∧ j ≤ 21 ∧ (sizes (l.take j) : Int) ≤ most ∧ Below w.heap.size w wr) (fun i _ _ => l.length - (intOf i).toNat)
  case atStart => exact ⟨0, rfl, by simp [sizes], Nat.zero_le _, by omega, by simpa [sizes] using hm, Below.refl _ _⟩
  case round =>
    obtain ⟨j, rfl, rfl, hj, hj21, hle, hb⟩ := hrel
    have hst := sizes_take_le l j
    by_cases hlt : j < l.length
    · by_cases h20 : j ≤ 20
      · obtain ⟨rfl, g1⟩ := HS.out (by omega)
        obtain ⟨k0, k1, k2, a1, n1, cap1, e0, e1, e2, e3, htj⟩ := TreesIn.at HC.out hb g1 j hlt
        have hs1 := sizes_take_succ l j hlt
        have hs2 := sizes_take_le l (j + 1)
        have h20' : (j : Int) ≤ 20 := by omega
        have HT := Lib.hid (htj.later hb hb.size)
        have HB := Lib.hid hb
        have HS1 := Lib.hid hs1
        have hts : (l[j]).size ≤ 2000000 := by omega
        clear htj hb hs1
        go_wp2_with fail
        refine (size_any _ l[j] _ _ (Nat.le_refl _) hts HT.out).mono ?_
        rintro e w2 ⟨rfl, hb2⟩
        have HB2 := Lib.hid (HB.out.trans (hb2.mono HB.out.size))
        clear hb2
        have hsum : (sizes (l.take j) : Int) + ((l[j]).size : Int) = (sizes (l.take (j + 1)) : Int) := by have := HS1.out; omega
        have HSUM := Lib.hid hsum
        have hbd : (sizes (l.take j) : Int) + ((l[j]).size : Int) ≤ 2000000 := by have := HS1.out; omega
        generalize hA : (sizes (l.take j) : Int) = A at *
        generalize hB : ((l[j]).size : Int) = B at *
        have hA0 : 0 ≤ A := by omega
        have hB0 : 0 ≤ B := by omega
        clear hsum hA hB
        by_cases hbig : most < A + B
        · go_wp2_with fail
          go_ret
          exact ⟨false, rfl, fun h => (by cases h), HB2.out⟩
        · go_wp2_with fail
          go_roundw
          case rel => exact ⟨j + 1, by go_num, by rw [HSUM.out], by omega, by omega, by rw [← HSUM.out]; omega, HB2.out⟩
          case measure => simp [intOf]; omega
      · have h20' : decide ((j : Int) ≤ 20) = false := by simp; omega
        have hl20 : decide ((l.length : Int) ≤ 20) = false := by simp; omega
        have HB := Lib.hid hb
        clear hb
        go_wp2_with fail
        go_ret
        exact ⟨false, rfl, (fun h => by cases h), HB.out⟩
    · obtain rfl : j = l.length := by omega
      rw [List.take_of_length_le (Nat.le_refl _)] at hle
      have HB := Lib.hid hb
      have HLE := Lib.hid hle
      clear hb hle
      go_wp2_with fail
      go_ret
      exact ⟨_, rfl, fun h => ⟨by simp at h; omega, HLE.out⟩, HB.out⟩

end Go.Proofs.Ytpacnaeckbcpjaa
