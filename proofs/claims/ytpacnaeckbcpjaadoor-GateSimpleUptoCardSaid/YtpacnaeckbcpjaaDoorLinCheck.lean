/- lin.Check of a constraint that is well-formed. -/
import Derived.Test.YtpacnaeckbcpjaaDoorSame
import Derived.Test.YtpacnaeckbcpjaaDoorChecked
import Derived.Shelf.Abstract
namespace Go.Chalk
/-- A constraint is well-formed over the variables 1 to n. -/
structure LinOk (s : Lin) (n : Int) : Prop where
  len : s.c.length = s.l.length
  most : s.l.length ≤ 4096
  least : -1099511627776 ≤ s.least ∧ s.least ≤ 1099511627776
  cs : ∀ c ∈ s.c, -1099511627776 ≤ c ∧ c ≤ 1099511627776
  ls : ∀ l ∈ s.l, l ≠ 0 ∧ l ≤ n ∧ -n ≤ l
end Go.Chalk
namespace Go.Proofs.YtpacnaeckbcpjaaDoor
open Go.RowKit Go.Chalk

/-- The function that is handed over says no at each number of the row. -/
def NoneAt (f : FuncId) (lb : Array Value) (w : World) (xs : List Int) : Prop :=
  ∀ (j : Nat) (hj : j < xs.length) (W : World), Below w.heap.size w W → Calls Tryd.prog f (#[.int .i64 xs[j]] ++ lb) W fun e w' => e = .returned (.bool false) ∧ Below W.heap.size W w'

set_option maxRecDepth 100000 in
set_option maxHeartbeats 1000000 in
theorem indexInts_none (f : FuncId) (lb : Array Value) (xs : List Int) (a : Option Addr) (b o cap : Nat) (w : World) (hsl : SlAt (· < w.heap.size) a b o xs.length) (hin : ∀ (i : Nat) (h : i < xs.length), w.cell? ⟨b, o + i, none⟩ = some (.int .i64 xs[i])) (hp : NoneAt f lb w xs)
    (hent : ∀ (args : Array Value) (w : World), (callFunc f args).run Tryd.prog w = .ok (.enter f args) w) (hmax : xs.length ≤ 2000000) :
    Calls Tryd.prog 50 #[.slice a xs.length cap, .func (.func f) #[] lb] w fun e w' => e = .returned (.int .i64 (-1)) ∧ Below w.heap.size w w' := by
  have HIN := Lib.hid hin
  have HP := Lib.hid hp
  clear hin hp
  go_enter Tryd.func50, Tryd.ntmps50
  go_wp2_with fail
  go_loopw [8, 5] (fun i _ wr => ∃ j : Nat, j ≤ xs.length ∧ i = .int .i64 j ∧ Below w.heap.size w wr) (fun i _ _ => xs.length - (intOf i).toNat)
  case atStart => exact ⟨0, Nat.zero_le _, rfl, Below.refl _ _⟩
  case round =>
    obtain ⟨j, hj, rfl, hb⟩ := hrel
    have hbs := hb.size
    by_cases hlt : j < xs.length
    · obtain ⟨rfl, hbl⟩ := hsl (by omega)
      have e0 := (hb.cell (p := ⟨b, o + j, none⟩) hbl).trans (HIN.out j hlt)
      have HC := Lib.hid (HP.out j hlt wr hb)
      have HB := Lib.hid hb
      clear hb
      go_wp2_with fail
      refine HC.out.mono ?_
      rintro e w' ⟨rfl, hb'⟩
      have HBB := Lib.hid (HB.out.trans (hb'.mono hbs))
      clear hb'
      go_wp2_with fail
      exact ⟨⟨j + 1, by omega, by go_num, HBB.out⟩, by simp [intOf]; omega⟩
    · go_wp2_with fail
      go_ret
      exact ⟨rfl, hb⟩

set_option maxHeartbeats 400000 in
theorem containsInts_none (f : FuncId) (lb : Array Value) (xs : List Int) (a : Option Addr) (b o cap : Nat) (w : World) (hsl : SlAt (· < w.heap.size) a b o xs.length) (hin : ∀ (i : Nat) (h : i < xs.length), w.cell? ⟨b, o + i, none⟩ = some (.int .i64 xs[i])) (hp : NoneAt f lb w xs)
    (hent : ∀ (args : Array Value) (w : World), (callFunc f args).run Tryd.prog w = .ok (.enter f args) w) (hmax : xs.length ≤ 2000000) :
    Calls Tryd.prog 49 #[.slice a xs.length cap, .func (.func f) #[] lb] w fun e w' => e = .returned (.bool false) ∧ Below w.heap.size w w' := by
  have HI := Lib.hid (indexInts_none f lb xs a b o cap w hsl hin hp hent hmax)
  clear hsl hin hp hent
  go_enter Tryd.func49, Tryd.ntmps49
  go_wp2_with fail
  refine HI.out.mono ?_
  rintro e w' ⟨rfl, hb⟩
  go_wp2_with fail
  go_ret
  exact ⟨rfl, hb⟩

set_option maxRecDepth 100000 in
theorem within_yes (n : Int) (w : World) (h : -1099511627776 ≤ n ∧ n ≤ 1099511627776) : Calls Tryd.prog 47 #[.int .i64 n] w fun e w' => e = .returned (.bool true) ∧ w = w' := by
  obtain ⟨h1, h2⟩ := h
  have e1 : decide ((-1099511627776 : Int) ≤ n) = true := by simpa using h1
  have e2 : decide (n ≤ (1099511627776 : Int)) = true := by simpa using h2
  go_enter Tryd.func47, Tryd.ntmps47
  go_wp2_with fail
  go_ret
  exact ⟨rfl, rfl⟩
set_option maxRecDepth 100000 in
theorem odd_no (n : Int) (w : World) (h : -1099511627776 ≤ n ∧ n ≤ 1099511627776) : Calls Tryd.prog 46 #[.int .i64 n] w fun e w' => e = .returned (.bool false) ∧ w = w' := by
  go_enter Tryd.func46, Tryd.ntmps46
  go_wp2_with fail
  refine (within_yes n _ h).mono ?_
  rintro e w' ⟨rfl, rfl⟩
  go_wp2_with fail
  go_ret
  exact ⟨rfl, rfl⟩
set_option maxRecDepth 100000 in
theorem wrong_no (l n : Int) (c : Nat) (w : World) (hn : 0 ≤ n ∧ n ≤ 65536) (h : l ≠ 0 ∧ l ≤ n ∧ -n ≤ l) (hc : w.cell? ⟨c, 0, none⟩ = some (.int .i64 n)) : Calls Tryd.prog 48 #[.int .i64 l, .pointer (some ⟨c, 0, none⟩)] w fun e w' => e = .returned (.bool false) ∧ w = w' := by
  obtain ⟨h1, h2, h3⟩ := h
  have e1 : (l == 0) = false := by simpa using h1
  have e2 : decide (n < l) = false := by simp; omega
  have e3 : decide (l < -n) = false := by simp; omega
  go_enter Tryd.func48, Tryd.ntmps48
  go_wp2_with fail
  go_ret
  exact ⟨rfl, rfl⟩

set_option maxRecDepth 100000 in
set_option maxHeartbeats 1000000 in
theorem lincheck_ok (s : Lin) (u1 u2 u3 : Value) (n : Int) (w : World) (hn : 0 ≤ n ∧ n ≤ 65536) (h : LinOk s n) (hd : DAt w (· < w.heap.size) s.toD [u1, u2, u3]) :
    Calls Tryd.prog 42 #[.agg #[u1, u2, u3], .int .i64 n] w fun e w' => e = .returned (.int .i64 0) ∧ Below w.heap.size w w' := by
  obtain ⟨a1, b1, o1, cap1, a2, b2, o2, cap2, he, s1, s2, _, _, c1, c2⟩ := lin_open hd
  simp only [List.cons.injEq, and_true] at he
  obtain ⟨rfl, rfl, rfl⟩ := he
  obtain ⟨hlen, hmost, hleast, hcs, hls⟩ := h
  have HC1 := Lib.hid c1
  have HC2 := Lib.hid c2
  have HS1 := Lib.hid s1
  have HS2 := Lib.hid s2
  have HCS := Lib.hid hcs
  have HLS := Lib.hid hls
  clear c1 c2 s1 s2 hcs hls hd
  have hmf : ∀ (fn : Fn) (first cap : Array Value) (w : World), (Instr.makeFunc fn first cap).run Tryd.prog w = .ok (.func fn first cap) w := fun _ _ _ _ => rfl
  have e1 : decide (n < 0) = false := by simp; omega
  have e2 : decide ((65536 : Int) < n) = false := by simp; omega
  have e3 : ((s.c.length : Int) != (s.l.length : Int)) = false := by simp [hlen]
  have HLEN := Lib.hid hlen
  clear hlen
  have HBW : Hid (Below w.heap.size w ((w.alloc (.cells #[.slice a1 s.c.length cap1, .slice a2 s.l.length cap2, .int .i64 s.least] 42)).alloc (.cells #[.int .i64 n] 3))) := ((Below.refl _ _).alloc (Nat.le_refl _) _).alloc (by simp) _
  have HTW := Lib.hid (twob_start w (.cells #[.slice a1 s.c.length cap1, .slice a2 s.l.length cap2, .int .i64 s.least] 42) (.cells #[.int .i64 n] 3))
  go_enter Tryd.func42, Tryd.ntmps42
  go_wp2_with fail
  refine (odd_no s.least _ hleast).mono ?_
  rintro e w' ⟨rfl, rfl⟩
  go_wp2_with fail
  have hsl1 : s.c.length ≤ 4096 := by have := HLEN.out; omega
  refine (containsInts_none 46 #[] s.c a1 b1 o1 cap1 _ (fun h => ⟨(HS1.out h).1, by have := (HS1.out h).2; simp; omega⟩) (fun i h => (HBW.out.cell (p := ⟨b1, o1 + i, none⟩) (HS1.out (by omega)).2).trans (HC1.out i h)) (fun j hj W hb => (odd_no _ W (HCS.out _ (List.getElem_mem hj))).mono (fun e w' ⟨he, hw⟩ => ⟨he, hw ▸ Below.refl _ _⟩)) (fun _ _ => by rfl) (by omega)).mono ?_
  rintro e w1 ⟨rfl, hb1⟩
  have hB1 : Below w.heap.size w w1 := HBW.out.trans (hb1.mono (by simp; omega))
  have t1 : w1.heap[w.heap.size]? = some (.cells #[.slice a1 s.c.length cap1, .slice a2 s.l.length cap2, .int .i64 s.least] 42) := (hb1.block _ (by simp; omega)).trans HTW.out.t1
  have t2 : w1.heap[w.heap.size + 1]? = some (.cells #[.int .i64 n] 3) := (hb1.block _ (by simp)).trans HTW.out.t2
  have q1 : w1.cell? ⟨w.heap.size, 1, none⟩ = some (.slice a2 s.l.length cap2) := cell_of_heap t1 rfl
  have HB1 := Lib.hid hB1
  have HT1 := Lib.hid t1
  have HT2 := Lib.hid t2
  clear hb1 t1 t2 hB1
  go_wp2_with fail
  refine (containsInts_none 48 #[.pointer (some ⟨w.heap.size + 1, 0, none⟩)] s.l a2 b2 o2 cap2 _ (fun h => ⟨(HS2.out h).1, by have := (HS2.out h).2; have := HB1.out.size; omega⟩) (fun i h => (HB1.out.cell (p := ⟨b2, o2 + i, none⟩) (HS2.out (by omega)).2).trans (HC2.out i h)) (fun j hj W hb => (wrong_no _ n _ W hn (HLS.out _ (List.getElem_mem hj)) (cell_of_heap ((hb.block _ (Array.getElem?_eq_some_iff.1 HT2.out).1).trans HT2.out) rfl)).mono (fun e w' ⟨he, hw⟩ => ⟨he, hw ▸ Below.refl _ _⟩)) (fun _ _ => by rfl) (by omega)).mono ?_
  rintro e w2 ⟨rfl, hb2⟩
  have q2 : w2.cell? ⟨w.heap.size, 1, none⟩ = some (.slice a2 s.l.length cap2) := cell_of_heap ((hb2.block _ (Array.getElem?_eq_some_iff.1 HT1.out).1).trans HT1.out) rfl
  have HB2 := Lib.hid (HB1.out.trans (hb2.mono HB1.out.size))
  clear hb2 q1
  go_wp2_with fail
  go_ret
  exact ⟨rfl, HB2.out⟩

end Go.Proofs.YtpacnaeckbcpjaaDoor
