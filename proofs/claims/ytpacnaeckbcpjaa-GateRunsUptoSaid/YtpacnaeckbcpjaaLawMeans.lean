/- GateMeans: for every ground formula and assignment, where what comes in is of bulk at most 1048576, the law returns true: each assignment has just one extension that satisfies the constraints, and the literal has the value of the formula. -/
import Derived.Test.YtpacnaeckbcpjaaLive
import Derived.Test.YtpacnaeckbcpjaaMeansLaw
import Derived.Test.YtpacnaeckbcpjaaBoolArg
import Derived.Test.YtpacnaeckbcpjaaAppendSrc
namespace Go.Proofs.Ytpacnaeckbcpjaa
open Go.ChangeShapes Go.WideShapes Go.ChangeAt Go.RowKit Go.Chalk

theorem bool_info : (Try.prog.info? 4).map (fun i => (i.zero, i.size, i.bytes)) = some (some (.bool false), 1, 1) := by kernel_rfl

theorem bits_small : ∀ m : Fin 512, (bits .and .i64 ((m.val : Nat) : Int) 1 == 1) = decide (m.val % 2 = 1) := by decide +kernel
theorem bits_one (n j : Nat) (h : n < 512) : (bits .and .i64 ((n : Int) / 2 ^ j) 1 == 1) = decide (n / 2 ^ j % 2 = 1) := by
  have hlt : n / 2 ^ j < 512 := Nat.lt_of_le_of_lt (Nat.div_le_self _ _) h
  have e : ((n : Int) / 2 ^ j) = ((n / 2 ^ j : Nat) : Int) := by simp
  rw [e]
  exact bits_small ⟨n / 2 ^ j, hlt⟩
/-- The first m bits of n. -/
def bitsF (n m : Nat) : List Bool := (List.range m).map (fun i => decide (n / 2 ^ i % 2 = 1))
theorem bitsF_length (n m : Nat) : (bitsF n m).length = m := by simp [bitsF]
theorem bitsF_succ (n m : Nat) : bitsF n (m + 1) = bitsF n m ++ [decide (n / 2 ^ m % 2 = 1)] := by simp [bitsF, List.range_succ]
def codeF : List Bool → Nat
  | [] => 0
  | b :: r => (if b then 1 else 0) + 2 * codeF r
theorem codeF_lt : ∀ c : List Bool, codeF c < 2 ^ c.length
  | [] => by simp [codeF]
  | b :: r => by have := codeF_lt r; rw [codeF, List.length_cons, Nat.pow_succ]; split <;> omega
theorem bitsF_zero (n m : Nat) : bitsF n (m + 1) = decide (n % 2 = 1) :: bitsF (n / 2) m := by
  unfold bitsF
  rw [List.range_succ_eq_map, List.map_cons, List.map_map]
  congr 1
  · simp
  · apply List.map_congr_left
    intro i _
    have e : n / 2 ^ (i + 1) = n / 2 / 2 ^ i := by rw [Nat.div_div_eq_div_mul, Nat.pow_succ, Nat.mul_comm]
    show decide (n / 2 ^ (i + 1) % 2 = 1) = _
    rw [e]
theorem bitsF_iff : ∀ (c : List Bool) (n : Nat), n < 2 ^ c.length → (bitsF n c.length = c ↔ n = codeF c)
  | [], n, h => by simp [bitsF, codeF] at h ⊢; omega
  | b :: r, n, h => by
    rw [List.length_cons] at h ⊢
    rw [bitsF_zero, codeF, List.cons.injEq, bitsF_iff r (n / 2) (by rw [Nat.pow_succ] at h; omega)]
    cases b
    · simp; omega
    · simp; omega

theorem own_read2 {w : World} {F : Nat → Prop} {e : TypeId} {sz : Nat} {v : Value} {r : Option Nat} {xs : List D} (h : Chalk.Own w F e sz v r xs) (hw : widths xs = xs.length * sz) : DAt w (· < w.heap.size) (.sl xs) [v] :=
  h.read (fun k hk => h.lt k hk) (fun _ hk => h.row_lt hk) hw
theorem means_below {w3 w4 : World} {o : Obj} (h : Chalk.Mod (fun k => some w3.heap.size = some k) (w3.alloc o).drew w4) : Below w3.heap.size w3 w4 :=
  (below_undrew ((Below.refl w3.heap.size w3).alloc (Nat.le_refl _) o)).trans (h.below (by show w3.heap.size ≤ (w3.alloc o).heap.size; simp) (fun k hk => by simp at hk; omega))

set_option maxRecDepth 100000 in
set_option maxHeartbeats 2000000 in
theorem means_walk (t : Tr) (x : Value) (xs : List Bool) (u : Value) (w : World) (hs : t.size ≤ 2000000) (ht : TreeV w (· < w.heap.size) t x) (hxb : xs.length ≤ 2000000) (hx : DAt w (· < w.heap.size) (.sl (dbools xs)) [u]) :
    Calls Try.prog 7 #[x, u] w fun e w' => e = .returned (.bool true) ∧ Below w.heap.size w w' := by
  have HT := Lib.hid ht
  have HX := Lib.hid hx
  obtain ⟨c0, c1, c2, c3, rfl, h⟩ := ht
  obtain ⟨k0, k1, k2, a1, n1, cap1, rfl, rfl, rfl, rfl⟩ := TreeV.shape h
  obtain ⟨xa, xb, xo, xcap, hev, _⟩ := hx.open_bools
  simp only [List.cons.injEq, and_true] at hev
  subst hev
  clear h hx
  obtain ⟨i0, hi, hz0, hz1, hz2⟩ := info_parts bool_info
  go_enter Try.func7, Try.ntmps7
  go_wp2_with fail
  refine (live_any _).mono ?_
  rintro e w1 ⟨rfl, hb1⟩
  obtain ⟨q0, q1, q2, q3⟩ := boxed4 hb1 (by simp)
  have hbb := Below.ahead hb1 (by simp)
  have HB1 := Lib.hid hbb
  have hlt1 : w.heap.size < w1.heap.size := by have := hb1.size; simp at this; omega
  clear hb1 hbb
  go_wp2_with fail
  refine (size_any _ t _ _ (Nat.le_refl _) hs (HT.out.later HB1.out HB1.out.size)).mono ?_
  rintro e w2 ⟨rfl, hb2⟩
  have p0 := (hb2.cell (p := ⟨w.heap.size, 0, none⟩) hlt1).trans q0
  have p1 := (hb2.cell (p := ⟨w.heap.size, 1, none⟩) hlt1).trans q1
  have p2 := (hb2.cell (p := ⟨w.heap.size, 2, none⟩) hlt1).trans q2
  have p3 := (hb2.cell (p := ⟨w.heap.size, 3, none⟩) hlt1).trans q3
  have hlt2 : w.heap.size < w2.heap.size := by have := hb2.size; omega
  have HB2 := Lib.hid (HB1.out.trans (hb2.mono HB1.out.size))
  clear hb2 q0 q1 q2 q3
  by_cases hbig : 60 < t.size
  · have hbig' : decide ((60 : Int) < (t.size : Int)) = true := by simp; omega
    go_wp2_with fail
    go_ret
    exact ⟨rfl, HB2.out⟩
  by_cases hbig2 : 12 < xs.length
  · have hbig' : decide ((60 : Int) < (t.size : Int)) = false := by simp; omega
    have hbig2' : decide ((12 : Int) < (xs.length : Int)) = true := by simp; omega
    go_wp2_with fail
    go_ret
    exact ⟨rfl, HB2.out⟩
  · have hbig' : decide ((60 : Int) < (t.size : Int)) = false := by simp; omega
    have hbig2' : decide ((12 : Int) < (xs.length : Int)) = false := by simp; omega
    have HTS : Hid (t.size ≤ 60) := by show _ ≤ _; omega
    generalize hts : (t.size : Int) = ts at *
    clear hts hs hxb
    go_wp2_with fail
    refine (gates_any t _ ((xs.length : Int) + 1) _ (by have := HTS.out; omega) (HT.out.later HB2.out HB2.out.size)).mono ?_
    rintro e w3 ⟨v3, rfl, hN3, hb3⟩
    have q0 := (hb3.cell (p := ⟨w.heap.size, 0, none⟩) hlt2).trans p0
    have q1 := (hb3.cell (p := ⟨w.heap.size, 1, none⟩) hlt2).trans p1
    have q2 := (hb3.cell (p := ⟨w.heap.size, 2, none⟩) hlt2).trans p2
    have q3 := (hb3.cell (p := ⟨w.heap.size, 3, none⟩) hlt2).trans p3
    have HB3 := Lib.hid (HB2.out.trans (hb3.mono HB2.out.size))
    have hlt3 : w.heap.size < w3.heap.size := by have := hb3.size; omega
    have HD3 : Hid (DAt w3 (· < w3.heap.size) (.sl ((gatesF t ((xs.length : Int) + 1)).2.1.map Lin.toD)) [v3]) := DAt.mono (fun k hk => hk.2) _ _ hN3
    clear hb3 hN3 p0 p1 p2 p3
    by_cases herr : (gatesF t ((xs.length : Int) + 1)).2.2.2 = 0
    · obtain ⟨hce, hwd, hov, hgt⟩ : checkE t (xs.length : Int) = 0 ∧ wideB t = false ∧ (litF t ((xs.length : Int) + 1)).2.2 ≤ 65537 ∧ gatesF t ((xs.length : Int) + 1) = ((litF t ((xs.length : Int) + 1)).1, (litF t ((xs.length : Int) + 1)).2.1, (litF t ((xs.length : Int) + 1)).2.2, 0) := by
        rcases gatesF_cases t ((xs.length : Int) + 1) (by omega) (by omega) with ⟨hc, hg⟩ | ⟨hc, hw, hg⟩ | ⟨hc, hw, hov, hg⟩ | ⟨hc, hw, hov, hg⟩
        · rw [hg] at herr; exact absurd herr hc
        · rw [hg] at herr; exact absurd herr (by decide)
        · rw [hg] at herr; exact absurd herr (by decide)
        · exact ⟨by rwa [show (xs.length : Int) + 1 - 1 = (xs.length : Int) from by omega] at hc, hw, hov, hg⟩
      have hmay := (checkE_ok hce).2.2.1
      have hbd := litF_bound t ((xs.length : Int) + 1) _ hmay (by omega)
      have hok := litF_ok t ((xs.length : Int) + 1) _ hmay (by omega) (by omega) hwd
      have hnl := litF_lins t ((xs.length : Int) + 1)
      have hnv := newsV_length t (false :: xs) ((xs.length : Int) + 1) _ hmay
      have hmain : ∀ c : List Bool, c.length = (newsV t (false :: xs)).length → linsV (litF t ((xs.length : Int) + 1)).2.1 (false :: xs ++ c) = (c == newsV t (false :: xs)) ∧ truthF (litF t ((xs.length : Int) + 1)).1 (false :: xs ++ newsV t (false :: xs)) = valT t (false :: xs) := fun c hc => by
        have h := litF_main t _ (false :: xs) c [] hmay (by simp; omega) (by simp) hc
        rw [List.length_cons, Int.natCast_add, Int.natCast_one, List.append_nil, List.append_nil] at h
        exact h
      rw [hgt] at HD3 ⊢
      simp only at HD3 ⊢
      have HOK : Hid (∀ s ∈ (litF t ((xs.length : Int) + 1)).2.1, LinOk s 65536) := fun s hs => (hok s hs).mono (by omega)
      have HMAIN := Lib.hid hmain
      have HMAY := Lib.hid hmay
      have HS20 : Hid (t.size ≤ 2000000) := by have := HTS.out; show _ ≤ _; omega
      have HXN : Hid ((xs.length : Int) ≤ 1000000) := by show _ ≤ _; omega
      have hsz60 := HTS.out
      have hafter : (litF t ((xs.length : Int) + 1)).2.2 = (xs.length : Int) + 1 + ((newsV t (false :: xs)).length : Int) := by omega
      have hxr : -1000 ≤ (litF t ((xs.length : Int) + 1)).1 ∧ (litF t ((xs.length : Int) + 1)).1 ≤ 1000 := by omega
      have hll : (litF t ((xs.length : Int) + 1)).2.1.length ≤ 2000 := by omega
      have hm60 : (newsV t (false :: xs)).length ≤ 60 := by omega
      rw [hafter]
      clear hok hce hwd hgt herr hmay hbd hov hnl hmain hnv hafter
      generalize (litF t ((xs.length : Int) + 1)).1 = lit at *
      generalize (litF t ((xs.length : Int) + 1)).2.1 = ls at *
      generalize hnw : newsV t (false :: xs) = nw at *
      generalize hvt : valT t (false :: xs) = vt at *
      have HVT := Lib.hid hvt
      clear hnw hvt
      have e1 : ((0 : Int) != 0) = false := rfl
      have e2 : decide ((xs.length : Int) + 1 + (nw.length : Int) < (xs.length : Int) + 1) = false := by simp; omega
      by_cases hm9 : 9 < nw.length
      · have e3 : decide ((9 : Int) < (xs.length : Int) + 1 + (nw.length : Int) - ((xs.length : Int) + 1)) = true := by simp; omega
        go_wp2_with fail
        go_ret
        exact ⟨by simp <;> omega, HB3.out⟩
      · have e3 : decide ((9 : Int) < (xs.length : Int) + 1 + (nw.length : Int) - ((xs.length : Int) + 1)) = false := by simp; omega
        have HX3 := Lib.hid (HX.out.below HB3.out)
        have HOF : Hid (∀ W : World, Below w3.heap.size w3 W → Chalk.Own (W.alloc (.cells #[.bool false] 4)) (· < w3.heap.size) 4 1 (.slice (some ⟨W.heap.size, 0, none⟩) 1 1) (some W.heap.size) (dbools [false]) ∧ DAt (W.alloc (.cells #[.bool false] 4)) (· < w3.heap.size) (.sl (dbools xs)) [.slice xa xs.length xcap]) := fun W hbW => by
          have h1 : DsAt W (· < w3.heap.size) (dbools [false]) [.bool false] := DsAt.bools (xs := [false])
          refine ⟨?_, ?_⟩
          · have h2 := Chalk.Own.lit (w := W) (F := (· < w3.heap.size)) (e := 4) (sz := 1) (n := 1) (xs := dbools [false]) (cs := [.bool false]) rfl (by decide) rfl h1 (fun k hk => Nat.lt_of_lt_of_le hk hbW.size)
            exact h2
          · exact DAt.agree (agree_of_below (hbW.alloc hbW.size _)) _ _ HX3.out
        have HSRC : Hid (DAt (w3.alloc (.cells #[.bool false] 4)).drew (· < w3.heap.size) (.sl (dbools xs)) [.slice xa xs.length xcap]) := DAt.agree (agree_of_below (below_undrew ((Below.refl w3.heap.size w3).alloc (Nat.le_refl _) _))) _ _ HX3.out
        have HOWN : Hid (Chalk.Own (w3.alloc (.cells #[.bool false] 4)).drew (· < w3.heap.size) 4 1 (.slice (some ⟨w3.heap.size, 0, none⟩) 1 1) (some w3.heap.size) (dbools [false])) := (HOF.out w3 (Below.refl _ _)).1.below (below_undrew (Below.refl _ _))
        go_wp2_with fail
        go_region_law (first | (refine step_append_src _ (by rfl) _ _ _ (by rfl) 4 i0 _ 1 1 Try.underlying43 hi hz0 hz1 hz2 rfl (by omega) (.slice (some ⟨w3.heap.size, 0, none⟩) 1 1) (.slice xa xs.length xcap) (· < w3.heap.size) (some w3.heap.size) (dbools [false]) (dbools xs) (by rfl) (by rfl) HOWN.out HSRC.out (by rw [dbools_widths]; simp) (by simp; unfold maxLen; omega) (by simp; omega) ?_; intro oa ocap orow w4 hown hmod hat; simp only [dbools_length, List.length_singleton] at hown ⊢; have HM4 := Lib.hid hmod; have HR4 : Hid (DAt w4 (· < w4.heap.size) (.sl (dbools (false :: xs))) [.slice oa (1 + xs.length) ocap]) := own_read2 hown (by rw [dbools_widths]; simp); have HB34 := Lib.hid (means_below hmod); have s0 := (HB34.out.cell (p := ⟨w.heap.size, 0, none⟩) hlt3).trans q0; have s1 := (HB34.out.cell (p := ⟨w.heap.size, 1, none⟩) hlt3).trans q1; have s2 := (HB34.out.cell (p := ⟨w.heap.size, 2, none⟩) hlt3).trans q2; have s3 := (HB34.out.cell (p := ⟨w.heap.size, 3, none⟩) hlt3).trans q3; clear hown hmod hat) | (go_simp; go_at_call 22; (with_reducible refine (value_any _ t _ _ (false :: xs) _ _ (Nat.le_refl _) (HS20.out) HMAY.out HXN.out (HT.out.later (HB3.out.trans (HB34.out.mono HB3.out.size)) (Nat.le_trans HB3.out.size HB34.out.size)) HR4.out).mono ?_); rintro e w5 ⟨rfl, hb5⟩; rw [HVT.out]; have HB35 := Lib.hid (HB34.out.trans (hb5.mono HB34.out.size)); clear hb5))
        all_goals
          go_wp2_with fail
          rw [show xs.length + 1 + nw.length - (xs.length + 1) = nw.length from by omega]
          have hpw : (wrap64 (2 ^ nw.length) : Int) = ((2 ^ nw.length : Nat) : Int) := by
            have h9 : nw.length = 0 ∨ nw.length = 1 ∨ nw.length = 2 ∨ nw.length = 3 ∨ nw.length = 4 ∨ nw.length = 5 ∨ nw.length = 6 ∨ nw.length = 7 ∨ nw.length = 8 ∨ nw.length = 9 := by omega
            rcases h9 with h | h | h | h | h | h | h | h | h | h <;> rw [h] <;> decide +kernel
          rw [hpw]
          have hpb : 2 ^ nw.length ≤ 512 := by
            have : 2 ^ nw.length ≤ 2 ^ 9 := Nat.pow_le_pow_right (by omega) (by omega)
            simpa using this
          have HCL := Lib.hid (codeF_lt nw)
          generalize hPW : 2 ^ nw.length = pw at *
          have HPW := Lib.hid hPW
          clear hPW hpw
          clear s0 s1 s2 s3 q0 q1 q2 q3
          rw [show (xs.length : Int) + 1 + (nw.length : Int) - ((xs.length : Int) + 1) = (nw.length : Int) from by omega]
          go_loopw [73, 11, 12, 13, 14] (fun i ways _ _ _ wr => ∃ (n : Nat) (wz : Int), i = .int .i64 n ∧ n ≤ pw ∧ ways = .int .i64 wz ∧ 0 ≤ wz ∧ wz ≤ 1 ∧ Hid (wz = if codeF nw < n then 1 else 0) ∧ Below w3.heap.size w3 wr) (fun i _ _ _ _ _ => pw - (intOf i).toNat)
          case atStart => exact ⟨0, 0, rfl, Nat.zero_le _, rfl, by omega, by omega, by simp [Hid], HB35.out⟩
          case round =>
            obtain ⟨n, wz, rfl, hn, rfl, hwz0, hwz1, HWZ, hb⟩ := hrel
            by_cases hlt : n < pw
            · have hbs := hb.size
              have HB := Lib.hid hb
              have HSR : Hid (DAt (wr.alloc (.cells #[.bool false] 4)) (· < w3.heap.size) (.sl (dbools xs)) [.slice xa xs.length xcap]) := (HOF.out wr hb).2
              have HOW := Lib.hid (HOF.out wr hb).1
              clear hb
              go_wp2_with (at_builtin; go_must (refine wpList_append_src _ (by rfl) _ _ _ rfl 4 i0 _ 1 1 Try.underlying43 hi hz0 hz1 hz2 rfl (by omega) (.slice (some ⟨wr.heap.size, 0, none⟩) 1 1) (.slice xa xs.length xcap) (· < w3.heap.size) (some wr.heap.size) (dbools [false]) (dbools xs) rfl rfl HOW.out HSR.out (by rw [dbools_widths]; simp) (by simp; unfold maxLen; omega) (by simp; omega) ?_); intro pa pcap prow w6 hown hmod hat; simp only [dbools_length, List.length_singleton] at hown ⊢; have HO6 := Lib.hid hown; have HM6 := Lib.hid hmod; clear hown hmod hat)
              rw [show (xs.length : Int) + 1 + (nw.length : Int) - ((xs.length : Int) + 1) = (nw.length : Int) from by omega]
              have HB6 : Hid (Below w3.heap.size w3 w6) := by
                have h1 := HB.out.alloc hbs (.cells #[.bool false] 4)
                exact h1.trans (HM6.out.below (by simp; omega) (fun k hk => by simp at hk; omega))
              obtain ⟨wo, rfl⟩ : ∃ wo : World, wo = wr := ⟨_, rfl⟩
              go_loopw [82, 13, 14] (fun i av _ wr => ∃ (j : Nat) (q : Option Nat), i = .int .i64 j ∧ j ≤ nw.length ∧ Chalk.Own wr (· < w3.heap.size) 4 1 av q (dbools (false :: xs ++ bitsF n j)) ∧ Below w3.heap.size w3 wr) (fun i _ _ _ => nw.length - (intOf i).toNat)
              case atStart => exact ⟨0, prow, rfl, Nat.zero_le _, by have h := HO6.out; rw [← dbools_append] at h; simpa [bitsF] using h, HB6.out⟩
              case round =>
                obtain ⟨j, q, rfl, hj, O, hb⟩ := hrel
                have hbs2 := hb.size
                obtain ⟨aa, acap, hav⟩ := O.form
                rw [dbools_length] at hav
                subst hav
                have hlen7 : (false :: xs ++ bitsF n j).length ≤ 100 := by simp [bitsF_length]; omega
                generalize hal : (false :: xs ++ bitsF n j).length = al at *
                have HAL := Lib.hid hal
                clear hal
                by_cases hjl : j < nw.length
                · have hbit := bits_one n j (by omega)
                  generalize hbb : decide (n / 2 ^ j % 2 = 1) = bb at hbit
                  have HBB := Lib.hid hbb
                  have HB7 := Lib.hid hb
                  have HO7 := Lib.hid (O.alloc (.cells #[.bool bb] 4))
                  obtain ⟨cs0, hrow0, hds0⟩ := HO7.out.cells
                  rw [dbools_length, HAL.out] at hrow0
                  have HROW := Lib.hid hrow0
                  have HDS := Lib.hid hds0
                  clear hbb hb O hrow0 hds0
                  go_wp2_with (at_builtin; go_must (refine wpList_append_lies _ rfl _ _ 43 rfl 0 4 i0 _ 1 1 Try.underlying43 hi hz0 hz1 hz2 rfl (by decide) (.slice aa al acap) _ _ rfl HROW.out ⟨wr.heap.size, 0, none⟩ 1 1 [.bool bb] rfl rfl (World.news_of_block (heap_alloc_new wr _)) (by simp [Value.oneCell']) (by omega) (by unfold maxLen; omega) (by omega) (Nat.zero_le _) (wr.heap.size + 1) (by simp) ?_); intro g cp w8 hown hgrow hat hglt; have HO8 := Lib.hid hown; have HGR := Lib.hid hgrow; have HAT := Lib.hid hat; clear hown hgrow hat)
                  obtain ⟨g1, g2, g3⟩ := HO7.out.appended (ys := dbools [bb]) HDS.out (by have h := HO8.out; rw [← HAL.out] at h; simpa using h) HGR.out (by rcases HAT.out with h | h; exact .inl h.symm; exact .inr (by simp [Value.ownBlock, h])) (DsAt.bools (xs := [bb]))
                  refine ⟨⟨j + 1, some g, by go_num, by omega, ?_, ?_⟩, by simp [intOf]; omega⟩
                  · rw [bitsF_succ, HBB.out, ← List.append_assoc, dbools_append, ← HAL.out]; exact (by simpa [Value.ownBlock] using g1)
                  · exact (HB7.out.alloc hbs2 _).trans (g2.below (by simp; omega) (fun k hk => by have := HO7.out.off k hk; omega))
                · obtain rfl : j = nw.length := by omega
                  have hbl := bitsF_length n nw.length
                  obtain ⟨hm1, hm2⟩ := HMAIN.out (bitsF n nw.length) hbl
                  have hiff := bitsF_iff nw n (by have := HPW.out; omega)
                  have HBQ := Lib.hid hb
                  have HRD := Lib.hid (own_read2 O (by rw [dbools_widths]; simp))
                  have HM := Lib.hid (And.intro hm1 (And.intro hm2 hiff))
                  clear hb O hm1 hm2 hiff hbl
                  go_wp2_with fail
                  refine (holds_any ls _ (false :: xs ++ bitsF n nw.length) _ _ HOK.out (by omega) (HD3.out.below HBQ.out) HRD.out).mono ?_
                  rintro e w9 ⟨rfl, hb9⟩
                  have HB9 := Lib.hid (HBQ.out.trans (hb9.mono HBQ.out.size))
                  have HRD9 := Lib.hid (HRD.out.below hb9)
                  clear hb9
                  rw [HM.out.1]
                  by_cases hnc : n = codeF nw
                  · have hbe : bitsF n nw.length = nw := HM.out.2.2.2 hnc
                    have hbt : (bitsF n nw.length == nw) = true := by rw [hbe]; simp
                    rw [hbt]
                    rw [hbe] at HRD9
                    have htr := HM.out.2.1
                    have HTR := Lib.hid htr
                    have hz : wz = 0 := by rw [HWZ.out, if_neg (by omega)]
                    subst hz
                    have hvv : (vt != vt) = false := by simp
                    clear hbe hbt htr
                    go_wp2_with fail
                    refine (truth_any lit (false :: xs ++ nw) _ _ (by omega) HRD9.out).mono ?_
                    rintro e w10 ⟨rfl, rfl⟩
                    rw [HTR.out]
                    go_wp2_with fail
                    go_roundw
                    case rel => exact ⟨n + 1, 1, by go_num, by omega, rfl, by omega, by omega, by show _ = _; rw [if_pos (by omega)], HB9.out⟩
                    case measure => simp [intOf]; omega
                  · have hbe : (bitsF n nw.length == nw) = false := by
                      have := fun h => hnc (HM.out.2.2.1 h)
                      simpa using this
                    rw [hbe]
                    clear hbe
                    have hwz' : wz = if codeF nw < n + 1 then 1 else 0 := by
                      rw [HWZ.out]
                      by_cases h : codeF nw < n
                      · rw [if_pos h, if_pos (by omega)]
                      · rw [if_neg h, if_neg (by omega)]
                    have HWZ' := Lib.hid hwz'
                    clear hwz'
                    go_wp2_with fail
                    go_roundw
                    case rel => exact ⟨n + 1, wz, by go_num, by omega, rfl, hwz0, hwz1, HWZ'.out, HB9.out⟩
                    case measure => simp [intOf]; omega
            · have hc : codeF nw < n := by have := HCL.out; have := HPW.out; omega
              have HB := Lib.hid (HB3.out.trans (hb.mono HB3.out.size))
              clear hb
              have hw1 : wz = 1 := by rw [HWZ.out, if_pos hc]
              subst hw1
              clear hc
              go_wp2_with fail
              go_ret
              exact ⟨rfl, HB.out⟩
    · have hg := gatesF_err t _ herr
      have hne : ((gatesF t ((xs.length : Int) + 1)).2.2.2 != 0) = true := by simpa using herr
      have hce : checkE t (xs.length : Int) ≠ 0 := by
        rcases gatesF_cases t ((xs.length : Int) + 1) (by omega) (by omega) with ⟨hc, hg⟩ | ⟨hc, hw, hg⟩ | ⟨hc, hw, hov, hg⟩ | ⟨hc, hw, hov, hg⟩
        · rw [show (xs.length : Int) + 1 - 1 = (xs.length : Int) from by omega] at hc; exact hc
        · exact absurd hw (by rw [wide_small t (by have := HTS.out; omega)]; simp)
        · have := litF_bound t ((xs.length : Int) + 1) _ (checkE_ok hc).2.2.1 (by omega)
          have := HTS.out
          omega
        · rw [hg] at herr; exact absurd rfl herr
      have hce' : (checkE t (xs.length : Int) != 0) = true := by simpa using hce
      generalize (gatesF t ((xs.length : Int) + 1)).2.2.2 = ec at *
      rw [hg] at HD3 ⊢
      simp only at HD3 ⊢
      obtain ⟨a, b, o, cap, he, _⟩ := lins_open HD3.out
      simp only [List.cons.injEq, and_true, List.length_nil] at he
      subst he
      clear hg herr hce
      go_wp2_with fail
      refine (check_any t _ (xs.length : Int) _ (by have := HTS.out; omega) (HT.out.later HB3.out HB3.out.size)).mono ?_
      rintro e w6 ⟨rfl, hb6⟩
      have HB6 := Lib.hid (HB3.out.trans (hb6.mono HB3.out.size))
      clear hb6
      go_wp2_with fail
      go_ret
      exact ⟨rfl, HB6.out⟩

set_option maxRecDepth 100000 in
theorem means_contract (H : Type) (enc : TypeId × Value → H) (W : World) (base : Nat) (args : Array Value) (ds gs : List (DataW H)) (before : List MemPlace)
    (hval : ∀ (j : Nat) t v, Try.f7.params[j]? = some t → args[j]? = some v → Value.okWide Try.prog W .any base t v)
    (hW : DataW.Whole enc Try.prog Try.f7.params.toList Rows.gateMeansSpec.vars false W args.toList ds gs before) (hk : Rows.uptoSmall H (ds ++ gs) = true) :
    Calls Try.prog 7 args W fun e W' => ∃ v, e = .returned v ∧ Rows.gateMeansSpec.post enc Try.prog Try.f7 false true false false W args v W' := by
  have hW' := hW
  obtain ⟨p, q, hA0, hV, rfl, hfz, hnd⟩ := hW
  have r_ : DataW.TrodAll enc Try.prog W 0 (fun _ => true) true Try.f7.params.toList args.toList ds p := hA0
  rw [Try.params7] at r_ hval
  obtain ⟨v0, vs0, d0, ds0, p0, q0, hargs, rfl, rfl, h0, r0⟩ := trodAll_cons r_
  obtain ⟨v1, vs1, d1, ds1, p1, q1, rfl, rfl, rfl, h1, r1⟩ := trodAll_cons r0
  obtain ⟨rfl, rfl, rfl⟩ := trodAll_nil r1
  obtain rfl : args = #[v0, v1] := by cases args; simp_all
  obtain ⟨rfl, rfl⟩ := trodVars_none hV
  obtain ⟨t0, e0, g0⟩ := tree_arg (hval 0 _ v0 rfl rfl) h0
  obtain ⟨t1, e1, g1⟩ := bools_arg (hval 1 _ v1 rfl rfl) h1
  have hb := small_bulk hk
  simp only [List.append_nil, D.ofAll, D.of, D.bulk, bulks, e0, e1] at hb
  have s0 := Tr.bulk_size t0
  have s1 := dbools_bulks t1
  refine (means_walk t0 v0 t1 v1 W (by omega) g0 (by omega) g1).mono fun e W' ⟨he, hb'⟩ => ?_
  subst he
  exact ⟨_, rfl, law_post laid rfl hW' (by kernel_rfl) rfl Try.underlying4 rfl hb'⟩

set_option maxRecDepth 100000 in
theorem means_lifted (os : Os) (started : os.Started) (H : Type) (enc : TypeId × Value → H) (F : Stop.Interp) :
    ReturnsInHanded {} Try.checked os 7 .any ((Rows.OpenSpec.upto Rows.gateMeansSpec).pre6 enc Try.prog Try.f7 Rows.gateMeansUptoRow.domain false) (((Rows.OpenSpec.upto Rows.gateMeansSpec).at F).post enc Try.prog Try.f7 false true false false) := by
  refine returnsInHanded_of_cond (C := Try.checked) (s := Rows.OpenSpec.upto Rows.gateMeansSpec) (k := Rows.uptoSmall) rfl own started (by kernel_rfl) Try.func7
    (OpenSpec.witness (enc := enc) (C := Try.checked) (s := Rows.OpenSpec.upto Rows.gateMeansSpec) (k := Rows.uptoSmall) rfl false ⟨#[], #[.agg #[.int .i64 0, .int .i64 0, .int .i64 0, .slice none 0 0], .slice none 0 0], []⟩ 8 (by kernel_rfl) (by kernel_rfl) (by kernel_rfl)
      (x := ([.agg [.lit (.int .i64 0), .lit (.int .i64 0), .lit (.int .i64 0), .nil], .nil], [], [])) (by kernel_rfl) rfl (by kernel_rfl)) ?_
  intro W base args ds gs before hval hW _ hk _
  exact means_contract H enc W base args ds gs before hval hW hk

theorem means_proved : Rows.GateMeansUptoSaid :=
  OpenClaim.holds_of_cond 7 Try.f7 rfl rfl rfl rfl rfl rfl rfl ⟨rfl, rfl, rfl, rfl, rfl⟩ rfl rfl rfl rfl rfl (by kernel_rfl) Try.func7 (by kernel_rfl)
    (of_decide_eq_true (by kernel_rfl)) (by unfold Func.isWrapper; first | (rw [if_pos (by decide +kernel)]; kernel_rfl) | (rw [if_neg (by decide +kernel)]; exact ⟨rfl, rfl⟩))
    (fun os started H enc _ F => means_lifted os started H enc F)

end Go.Proofs.Ytpacnaeckbcpjaa
