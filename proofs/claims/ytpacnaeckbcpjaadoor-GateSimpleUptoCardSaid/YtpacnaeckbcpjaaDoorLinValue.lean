/- lin.Value of a well-formed constraint; the law's holds. -/
import Derived.Test.YtpacnaeckbcpjaaDoorBools
import Derived.Test.YtpacnaeckbcpjaaDoorLive
namespace Go.Proofs.YtpacnaeckbcpjaaDoor
open Go.RowKit Go.Chalk

set_option maxRecDepth 100000 in
theorem of_any (l : Int) (w : World) (hl : -1000000000 ≤ l ∧ l ≤ 1000000000) : Calls Tryd.prog 33 #[.int .i64 l] w fun e w' => e = .returned (.int .i64 (l.natAbs : Int)) ∧ w = w' := by
  have e : (l.natAbs : Int) = if l < 0 then -l else l := by split <;> omega
  rw [e]
  clear e
  go_enter Tryd.func33, Tryd.ntmps33
  go_wp2_with fail
  all_goals
    go_ret
    exact ⟨rfl, rfl⟩

theorem truthF_abs (l : Int) (a : List Bool) (h : l ≠ 0) : truthF l a = (valB a l.natAbs == decide (0 < l)) := by
  unfold truthF
  by_cases h0 : l < 0
  · rw [if_pos h0, show (-l).toNat = l.natAbs from by omega, show decide (0 < l) = false from by simp; omega]; cases valB a l.natAbs <;> rfl
  · rw [if_neg h0, show l.toNat = l.natAbs from by omega, show decide (0 < l) = true from by simp; omega]; cases valB a l.natAbs <;> rfl

set_option maxRecDepth 100000 in
set_option maxHeartbeats 1000000 in
theorem term_any (acc c l : Int) (xs : List Bool) (cb : Nat) (v : Value) (w : World) (hacc : -1000000000000000000 ≤ acc ∧ acc ≤ 1000000000000000000) (hc : -1099511627776 ≤ c ∧ c ≤ 1099511627776) (hl : -1000000000 ≤ l ∧ l ≤ 1000000000) (h0 : l ≠ 0) (hcb : w.cell? ⟨cb, 0, none⟩ = some v) (hd : DAt w (· < w.heap.size) (.sl (dbools xs)) [v]) :
    Calls Tryd.prog 32 #[.int .i64 acc, .int .i64 c, .int .i64 l, .pointer (some ⟨cb, 0, none⟩)] w fun e w' => e = .returned (.int .i64 (acc + if truthF l xs then c else 0)) ∧ w = w' := by
  rw [truthF_abs l xs h0]
  obtain ⟨a, b, o, cap, he, hs, hln, hm, hcells⟩ := hd.open_bools
  simp only [List.cons.injEq, and_true] at he
  subst he
  unfold maxLen at hm
  generalize hn : l.natAbs = n at *
  have HN := Lib.hid hn
  clear hn hd
  by_cases hlt : n < xs.length
  · obtain ⟨rfl, hbl⟩ := hs (by omega)
    rw [valB_lt hlt]
    have e0 := hcells n hlt
    have e1 : decide ((n : Int) < (xs.length : Int)) = true := by simp; omega
    have e2 : decide (n < xs.length) = true := by simp; omega
    generalize xs[n] = bx at *
    clear hcells hs
    by_cases hp : 0 < l
    · have e3 : decide (0 < l) = true := by simpa using hp
      rw [e3]
      cases bx
      · have hb : (false == true) = false := rfl
        rw [hb]
        go_enter Tryd.func32, Tryd.ntmps32
        go_wp2_with fail
        refine (of_any l _ hl).mono ?_
        rintro e w' ⟨rfl, rfl⟩
        rw [HN.out]
        go_wp2_with fail
        go_ret
        exact ⟨by simp, rfl⟩
      · have hb : (true == true) = true := rfl
        rw [hb]
        go_enter Tryd.func32, Tryd.ntmps32
        go_wp2_with fail
        refine (of_any l _ hl).mono ?_
        rintro e w' ⟨rfl, rfl⟩
        rw [HN.out]
        go_wp2_with fail
        go_ret
        exact ⟨by simp, rfl⟩
    · have e3 : decide (0 < l) = false := by simp; omega
      rw [e3]
      cases bx
      · have hb : (false == false) = true := rfl
        rw [hb]
        go_enter Tryd.func32, Tryd.ntmps32
        go_wp2_with fail
        refine (of_any l _ hl).mono ?_
        rintro e w' ⟨rfl, rfl⟩
        rw [HN.out]
        go_wp2_with fail
        go_ret
        exact ⟨by simp, rfl⟩
      · have hb : (true == false) = false := rfl
        rw [hb]
        go_enter Tryd.func32, Tryd.ntmps32
        go_wp2_with fail
        refine (of_any l _ hl).mono ?_
        rintro e w' ⟨rfl, rfl⟩
        rw [HN.out]
        go_wp2_with fail
        go_ret
        exact ⟨by simp, rfl⟩
  · rw [valB_ge hlt]
    have e1 : decide ((n : Int) < (xs.length : Int)) = false := by simp; omega
    have e2 : decide (n < xs.length) = false := by simp; omega
    clear hcells hs
    by_cases hp : 0 < l
    · have e3 : decide (0 < l) = true := by simpa using hp
      rw [e3]
      have hb : (false == true) = false := rfl
      rw [hb]
      go_enter Tryd.func32, Tryd.ntmps32
      go_wp2_with fail
      refine (of_any l _ hl).mono ?_
      rintro e w' ⟨rfl, rfl⟩
      rw [HN.out]
      go_wp2_with fail
      go_ret
      exact ⟨by simp, rfl⟩
    · have e3 : decide (0 < l) = false := by simp; omega
      rw [e3]
      have hb : (false == false) = true := rfl
      rw [hb]
      go_enter Tryd.func32, Tryd.ntmps32
      go_wp2_with fail
      refine (of_any l _ hl).mono ?_
      rintro e w' ⟨rfl, rfl⟩
      rw [HN.out]
      go_wp2_with fail
      go_ret
      exact ⟨by simp, rfl⟩

/-- What the function that is folded owes: from g j to g (j + 1). -/
def FoldAt (f : FuncId) (lb : Array Value) (g : Nat → Int) (s : Lin) (w : World) : Prop :=
  ∀ (j : Nat) (h1 : j < s.c.length) (h2 : j < s.l.length) (W : World), Below w.heap.size w W → Calls Tryd.prog f (#[.int .i64 (g j), .int .i64 s.c[j], .int .i64 s.l[j]] ++ lb) W fun e w' => e = .returned (.int .i64 (g (j + 1))) ∧ Below W.heap.size W w'

set_option maxRecDepth 100000 in
set_option maxHeartbeats 1000000 in
theorem fold_int (f : FuncId) (lb : Array Value) (g : Nat → Int) (s : Lin) (u1 u2 u3 : Value) (w : World) (hlen : s.c.length = s.l.length) (hmax : s.l.length ≤ 4096) (hd : DAt w (· < w.heap.size) s.toD [u1, u2, u3]) (hf : FoldAt f lb g s w)
    (hent : ∀ (args : Array Value) (w : World), (callFunc f args).run Tryd.prog w = .ok (.enter f args) w) :
    Calls Tryd.prog 31 #[.agg #[u1, u2, u3], .int .i64 (g 0), .func (.func f) #[] lb] w fun e w' => e = .returned (.int .i64 (g s.l.length)) ∧ Below w.heap.size w w' := by
  obtain ⟨a1, b1, o1, cap1, a2, b2, o2, cap2, he, s1, s2, _, _, c1, c2⟩ := lin_open hd
  simp only [List.cons.injEq, and_true] at he
  obtain ⟨rfl, rfl, rfl⟩ := he
  have HC1 := Lib.hid c1
  have HC2 := Lib.hid c2
  have HS1 := Lib.hid s1
  have HS2 := Lib.hid s2
  have HF := Lib.hid hf
  have HLEN := Lib.hid hlen
  clear c1 c2 s1 s2 hd hf hlen
  go_enter Tryd.func31, Tryd.ntmps31
  go_wp2_with fail
  go_loopw [12, 1, 7, 8] (fun i n _ _ wr => ∃ j : Nat, i = .int .i64 j ∧ n = .int .i64 (g j) ∧ j ≤ s.l.length ∧ Below w.heap.size w wr ∧ w.heap.size < wr.heap.size ∧ wr.cell? ⟨w.heap.size, 0, none⟩ = some (.slice a1 s.c.length cap1)) (fun i _ _ _ _ => s.l.length - (intOf i).toNat)
  case atStart => exact ⟨0, rfl, rfl, Nat.zero_le _, (Below.refl _ _).alloc (Nat.le_refl _) _, by simp, by simp [go_sem]⟩
  case round =>
    obtain ⟨j, rfl, rfl, hj, hb, hz, hc⟩ := hrel
    by_cases hlt : j < s.l.length
    · have hlt1 : j < s.c.length := by have := HLEN.out; omega
      obtain ⟨rfl, g1⟩ := HS1.out (by omega)
      obtain ⟨rfl, g2⟩ := HS2.out (by omega)
      have e1 := (hb.cell (p := ⟨b1, o1 + j, none⟩) g1).trans (HC1.out j hlt1)
      have e2 := (hb.cell (p := ⟨b2, o2 + j, none⟩) g2).trans (HC2.out j hlt)
      have HCL := Lib.hid (HF.out j hlt1 hlt wr hb)
      have HB := Lib.hid hb
      have hbs := hb.size
      have hln : s.c.length ≤ 4096 := by have := HLEN.out; omega
      clear hb
      go_wp2_with fail
      refine HCL.out.mono ?_
      rintro e w' ⟨rfl, hb'⟩
      have hc' := (hb'.cell (p := ⟨w.heap.size, 0, none⟩) hz).trans hc
      have hz' : w.heap.size < w'.heap.size := by have := hb'.size; omega
      have HBB := Lib.hid (HB.out.trans (hb'.mono hbs))
      clear hb' hc
      go_wp2_with fail
      exact ⟨⟨j + 1, by go_num, rfl, by omega, HBB.out, hz', hc'⟩, by simp [intOf]; omega⟩
    · obtain rfl : j = s.l.length := by omega
      go_wp2_with fail
      go_ret
      exact ⟨rfl, hb⟩

set_option maxRecDepth 100000 in
theorem right_ok (s : Lin) (u1 u2 u3 : Value) (w : World) (h : LinOk s 65536) (hd : DAt w (· < w.heap.size) s.toD [u1, u2, u3]) :
    Calls Tryd.prog 30 #[.agg #[u1, u2, u3]] w fun e w' => e = .returned (.int .i64 0) ∧ Below w.heap.size w w' := by
  obtain ⟨a1, b1, o1, cap1, a2, b2, o2, cap2, he, _⟩ := lin_open hd
  simp only [List.cons.injEq, and_true] at he
  obtain ⟨rfl, rfl, rfl⟩ := he
  have HD := Lib.hid (hd.alloc (.cells #[.slice a1 s.c.length cap1, .slice a2 s.l.length cap2, .int .i64 s.least] 42))
  clear hd
  go_enter Tryd.func30, Tryd.ntmps30
  go_wp2_with fail
  refine (lincheck_ok s _ _ _ 65536 _ (by omega) h HD.out).mono ?_
  rintro e w1 ⟨rfl, hb⟩
  have HB := Lib.hid (Below.ahead hb (by simp))
  clear hb
  go_wp2_with fail
  go_ret
  exact ⟨rfl, HB.out⟩

/-- The sum of the first terms. -/
def sumTo (a : List Bool) (s : Lin) (j : Nat) : Int := sumB a (s.c.take j) (s.l.take j)
theorem sumTo_succ (a : List Bool) (s : Lin) (j : Nat) (h1 : j < s.c.length) (h2 : j < s.l.length) : sumTo a s (j + 1) = sumTo a s j + if truthF s.l[j] a then s.c[j] else 0 := by
  unfold sumTo
  rw [List.take_succ_eq_append_getElem h1, List.take_succ_eq_append_getElem h2, sumB_snoc _ _ _ _ _ (by simp; omega)]
theorem sumTo_bound (a : List Bool) (s : Lin) (j : Nat) (hc : ∀ c ∈ s.c, -1099511627776 ≤ c ∧ c ≤ 1099511627776) (hl : s.c.length ≤ 4096) : -10000000000000000 ≤ sumTo a s j ∧ sumTo a s j ≤ 10000000000000000 := by
  have h := sumB_bound a (s.c.take j) (s.l.take j) (fun c hc' => hc c (List.mem_of_mem_take hc'))
  have : (s.c.take j).length ≤ 4096 := by simp; omega
  unfold sumTo
  omega

set_option maxRecDepth 100000 in
set_option maxHeartbeats 1000000 in
theorem linvalue_any (s : Lin) (u1 u2 u3 : Value) (xs : List Bool) (v : Value) (w : World) (h : LinOk s 65536) (hd : DAt w (· < w.heap.size) s.toD [u1, u2, u3]) (hx : DAt w (· < w.heap.size) (.sl (dbools xs)) [v]) :
    Calls Tryd.prog 16 #[.agg #[u1, u2, u3], v] w fun e w' => e = .returned (.bool (linV s xs)) ∧ Below w.heap.size w w' := by
  have HD := Lib.hid hd
  obtain ⟨a1, b1, o1, cap1, a2, b2, o2, cap2, he, _⟩ := lin_open hd
  simp only [List.cons.injEq, and_true] at he
  obtain ⟨rfl, rfl, rfl⟩ := he
  have HX := Lib.hid hx
  obtain ⟨xa, xb, xo, xcap, hev, _⟩ := hx.open_bools
  simp only [List.cons.injEq, and_true] at hev
  subst hev
  have HOK := Lib.hid h
  have hlv : linV s xs = decide (s.least ≤ sumTo xs s s.l.length) := by
    unfold linV sumTo
    rw [List.take_of_length_le (Nat.le_of_eq h.len), List.take_of_length_le (Nat.le_refl _)]
  rw [hlv]
  have hmf : ∀ (fn : Fn) (first cap : Array Value) (w : World), (Instr.makeFunc fn first cap).run Tryd.prog w = .ok (.func fn first cap) w := fun _ _ _ _ => rfl
  have HBW : Hid (Below w.heap.size w ((w.alloc (.cells #[.slice a1 s.c.length cap1, .slice a2 s.l.length cap2, .int .i64 s.least] 42)).alloc (.cells #[.slice xa xs.length xcap] 25))) := ((Below.refl _ _).alloc (Nat.le_refl _) _).alloc (by simp) _
  have HTW := Lib.hid (twob_start w (.cells #[.slice a1 s.c.length cap1, .slice a2 s.l.length cap2, .int .i64 s.least] 42) (.cells #[.slice xa xs.length xcap] 25))
  clear hd hx h hlv
  go_enter Tryd.func16, Tryd.ntmps16
  go_wp2_with fail
  refine (right_ok s _ _ _ _ HOK.out (HD.out.below HBW.out)).mono ?_
  rintro e w1 ⟨rfl, hb1⟩
  have HB1 := Lib.hid (HBW.out.trans (hb1.mono (by simp; omega)))
  have t1 : w1.heap[w.heap.size]? = some (.cells #[.slice a1 s.c.length cap1, .slice a2 s.l.length cap2, .int .i64 s.least] 42) := (hb1.block _ (by simp; omega)).trans HTW.out.t1
  have t2 : w1.heap[w.heap.size + 1]? = some (.cells #[.slice xa xs.length xcap] 25) := (hb1.block _ (by simp)).trans HTW.out.t2
  have q0 : w1.cell? ⟨w.heap.size, 0, none⟩ = some (.slice a1 s.c.length cap1) := cell_of_heap t1 rfl
  have q1 : w1.cell? ⟨w.heap.size, 1, none⟩ = some (.slice a2 s.l.length cap2) := cell_of_heap t1 rfl
  have q2 : w1.cell? ⟨w.heap.size, 2, none⟩ = some (.int .i64 s.least) := cell_of_heap t1 rfl
  have HT1 := Lib.hid t1
  have HT2 := Lib.hid t2
  clear t1 t2 hb1
  have HFO : Hid (FoldAt 32 #[.pointer (some ⟨w.heap.size + 1, 0, none⟩)] (sumTo xs s) s w1.drew) := fun j h1 h2 W hb => by
    have hb' : Below w1.heap.size w1 W := ⟨hb.os, hb.tape, hb.output, hb.size, hb.block⟩
    have hcell : W.cell? ⟨w.heap.size + 1, 0, none⟩ = some (.slice xa xs.length xcap) := cell_of_heap ((hb'.block _ (Array.getElem?_eq_some_iff.1 HT2.out).1).trans HT2.out) rfl
    have hbd := sumTo_bound xs s j HOK.out.cs (by have := HOK.out.len; have := HOK.out.most; omega)
    have hls := HOK.out.ls _ (List.getElem_mem h2)
    rw [sumTo_succ xs s j h1 h2]
    exact (term_any _ _ _ xs _ _ W (by omega) (HOK.out.cs _ (List.getElem_mem h1)) (by omega) hls.1 hcell ((HX.out.below HB1.out).below hb')).mono (fun e w' ⟨he, hw⟩ => ⟨he, hw ▸ Below.refl _ _⟩)
  have HDD : Hid (DAt w1.drew (· < w1.drew.heap.size) s.toD [.slice a1 s.c.length cap1, .slice a2 s.l.length cap2, .int .i64 s.least]) := (HD.out.below HB1.out).below (w' := w1.drew) ⟨rfl, rfl, rfl, Nat.le_refl _, fun _ _ => rfl⟩
  have HFI := Lib.hid (fold_int 32 #[.pointer (some ⟨w.heap.size + 1, 0, none⟩)] (sumTo xs s) s _ _ _ w1.drew HOK.out.len HOK.out.most HDD.out HFO.out (fun _ _ => by rfl))
  have hg0 : sumTo xs s 0 = 0 := by simp [sumTo, sumB]
  rw [hg0] at HFI
  clear hg0
  go_wp2_with fail
  go_region_law (go_simp; go_at_call 31; (with_reducible refine HFI.out.mono ?_); rintro e w2 ⟨rfl, hb2⟩; have HB2 := Lib.hid (show Below w1.heap.size w1 w2 from ⟨hb2.os, hb2.tape, hb2.output, hb2.size, hb2.block⟩); have r2 : w2.cell? ⟨w.heap.size, 2, none⟩ = some (.int .i64 s.least) := cell_of_heap ((HB2.out.block _ (Array.getElem?_eq_some_iff.1 HT1.out).1).trans HT1.out) rfl; clear hb2)
  all_goals
    go_wp2_with fail
    go_ret
    exact ⟨rfl, HB1.out.trans (HB2.out.mono HB1.out.size)⟩

end Go.Proofs.YtpacnaeckbcpjaaDoor
