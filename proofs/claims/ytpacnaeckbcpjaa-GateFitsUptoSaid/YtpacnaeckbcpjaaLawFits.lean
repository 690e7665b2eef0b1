/- GateFits: for every ground formula and next variable, where what comes in is of bulk at most 1048576, the law returns true: the constraints are valid, with one new variable for each inner node. -/
import Derived.Test.YtpacnaeckbcpjaaLive
import Derived.Test.YtpacnaeckbcpjaaFitsLaw
import Derived.Test.YtpacnaeckbcpjaaTreeArg
namespace Go.Proofs.Ytpacnaeckbcpjaa
open Go.ChangeShapes Go.WideShapes Go.ChangeAt Go.RowKit Go.Chalk

set_option maxRecDepth 100000 in
set_option maxHeartbeats 1000000 in
theorem fits_walk (t : Tr) (x : Value) (next : Int) (w : World) (hs : t.size ≤ 2000000) (ht : TreeV w (· < w.heap.size) t x) (hnext : -9223372036854775808 ≤ next ∧ next ≤ 9223372036854775807) :
    Calls Try.prog 6 #[x, .int .i64 next] w fun e w' => e = .returned (.bool true) ∧ Below w.heap.size w w' := by
  have HT := Lib.hid ht
  obtain ⟨c0, c1, c2, c3, rfl, h⟩ := ht
  obtain ⟨k0, k1, k2, a1, n1, cap1, rfl, rfl, rfl, rfl⟩ := TreeV.shape h
  clear h
  go_enter Try.func6, Try.ntmps6
  go_wp2_with fail
  refine (live_any _).mono ?_
  rintro e w1 ⟨rfl, hb1⟩
  obtain ⟨q0, q1, q2, q3⟩ := boxed4 hb1 (by simp)
  have hbb := Below.ahead hb1 (by simp)
  have HB1 := Lib.hid hbb
  have hlt1 : w.heap.size < w1.heap.size := by have := hb1.size; simp at this; omega
  clear hb1 hbb
  go_wp2_with fail
  refine (size_any _ t _ _ (Nat.le_refl _) hs (HT.out.later HB1.out HB1.out.size)).mono ?_
  rintro e w2 ⟨rfl, hb2⟩
  have p0 := (hb2.cell (p := ⟨w.heap.size, 0, none⟩) hlt1).trans q0
  have p1 := (hb2.cell (p := ⟨w.heap.size, 1, none⟩) hlt1).trans q1
  have p2 := (hb2.cell (p := ⟨w.heap.size, 2, none⟩) hlt1).trans q2
  have p3 := (hb2.cell (p := ⟨w.heap.size, 3, none⟩) hlt1).trans q3
  have hlt2 : w.heap.size < w2.heap.size := by have := hb2.size; omega
  have HB2 := Lib.hid (HB1.out.trans (hb2.mono HB1.out.size))
  clear hb2 q0 q1 q2 q3
  by_cases hbig : 1000 < t.size
  · have hbig' : (1000 : Int) < (t.size : Int) := by omega
    go_wp2_with fail
    go_ret
    exact ⟨rfl, HB2.out⟩
  · have hbig' : ¬ (1000 : Int) < (t.size : Int) := by omega
    have HTS : Hid (t.size ≤ 1000) := by show _ ≤ _; omega
    generalize hts : (t.size : Int) = ts at *
    clear hts hs
    go_wp2_with fail
    refine (gates_any t _ next _ (by have := HTS.out; omega) (HT.out.later HB2.out HB2.out.size)).mono ?_
    rintro e w3 ⟨v3, rfl, hN3, hb3⟩
    have q0 := (hb3.cell (p := ⟨w.heap.size, 0, none⟩) hlt2).trans p0
    have q1 := (hb3.cell (p := ⟨w.heap.size, 1, none⟩) hlt2).trans p1
    have q2 := (hb3.cell (p := ⟨w.heap.size, 2, none⟩) hlt2).trans p2
    have q3 := (hb3.cell (p := ⟨w.heap.size, 3, none⟩) hlt2).trans p3
    have HB3 := Lib.hid (HB2.out.trans (hb3.mono HB2.out.size))
    have hlt3 : w.heap.size < w3.heap.size := by have := hb3.size; omega
    have HD3 : Hid (DAt w3 (· < w3.heap.size) (.sl ((gatesF t next).2.1.map Lin.toD)) [v3]) := DAt.mono (fun k hk => hk.2) _ _ hN3
    clear hb3 hN3 p0 p1 p2 p3
    by_cases herr : (gatesF t next).2.2.2 = 0
    · have hr : 1 ≤ next ∧ next ≤ 65537 := by
        by_cases h0 : next < 1 ∨ 65537 < next
        · have : gatesF t next = (0, [], 0, 1) := by unfold gatesF; rw [if_pos h0]
          rw [this] at herr; exact absurd herr (by decide)
        · omega
      obtain ⟨hce, hwd, hov, hgt⟩ : checkE t (next - 1) = 0 ∧ wideB t = false ∧ (litF t next).2.2 ≤ 65537 ∧ gatesF t next = ((litF t next).1, (litF t next).2.1, (litF t next).2.2, 0) := by
        rcases gatesF_cases t next hr.1 hr.2 with ⟨hc, hg⟩ | ⟨hc, hw, hg⟩ | ⟨hc, hw, hov, hg⟩ | ⟨hc, hw, hov, hg⟩
        · rw [hg] at herr; exact absurd herr hc
        · rw [hg] at herr; exact absurd herr (by decide)
        · rw [hg] at herr; exact absurd herr (by decide)
        · exact ⟨hc, hw, hov, hg⟩
      have hmay := (checkE_ok hce).2.2.1
      have hbd := litF_bound t next (next - 1) hmay hr.1
      have hok := litF_ok t next (next - 1) hmay hr.1 (by omega) hwd
      have hnw := litF_news t next (next - 1) hmay
      have hnl := litF_lins t next
      rw [hgt] at HD3 ⊢
      simp only at HD3 ⊢
      have HOK := Lib.hid hok
      have HCE := Lib.hid hce
      have HNW := Lib.hid hnw
      have hnn : (newsF t : Int) ≤ 1000 := by have := newsF_le t; have := HTS.out; omega
      have hafter : (litF t next).2.2 ≤ 65537 ∧ 1 ≤ (litF t next).2.2 := by omega
      have hx0 : ((litF t next).1 != 0) = true := by simpa using hbd.2.2.1
      have hx1 : decide ((litF t next).1 < (litF t next).2.2) = true := by simp; omega
      have hx2 : decide (-(litF t next).1 < (litF t next).2.2) = true := by simp; omega
      have hxr : -1000000 ≤ (litF t next).1 ∧ (litF t next).1 ≤ 1000000 := by omega
      have hll : (litF t next).2.1.length ≤ 2000 := by have := HTS.out; omega
      clear hok hce hnw hwd hgt herr hmay hbd hov hnl
      generalize (litF t next).1 = lit at *
      generalize (litF t next).2.1 = ls at *
      generalize hAF : (litF t next).2.2 = after at *
      clear hAF
      obtain ⟨a, b, o, cap, he, hsl, _, hcells⟩ := lins_open HD3.out
      simp only [List.cons.injEq, and_true] at he
      subst he
      have HSL := Lib.hid hsl
      have HCL := Lib.hid hcells
      clear hsl hcells
      have e1 : ((0 : Int) != 0) = false := rfl
      go_wp2_with fail
      go_loopw [39, 10] (fun i _ wr => ∃ j : Nat, i = .int .i64 j ∧ j ≤ ls.length ∧ Below w3.heap.size w3 wr) (fun i _ _ => ls.length - (intOf i).toNat)
      case atStart => exact ⟨0, rfl, Nat.zero_le _, Below.refl _ _⟩
      case round =>
        obtain ⟨j, rfl, hj, hb⟩ := hrel
        have hbs := hb.size
        by_cases hlt : j < ls.length
        · obtain ⟨rfl, g1⟩ := HSL.out (by omega)
          obtain ⟨a2, n2, k2', a3, n3, k3, z, f1, f2, f3, f4⟩ := HCL.out j hlt
          have e1' := (hb.cell (p := ⟨b, o + j * 3, none⟩) g1).trans f1
          have e2' := (hb.cell (p := ⟨b, o + j * 3 + 1, none⟩) g1).trans f2
          have e3' := (hb.cell (p := ⟨b, o + j * 3 + 2, none⟩) g1).trans f3
          have HDJ := Lib.hid ((DAt.below f4 hb).alloc (.cells #[.slice a2 n2 k2', .slice a3 n3 k3, .int .i64 z] 40))
          have HLO := Lib.hid (HOK.out ls[j] (List.getElem_mem hlt))
          have HB := Lib.hid hb
          clear f1 f2 f3 f4 hb
          go_wp2_with fail
          refine (lincheck_ok ls[j] _ _ _ (after - 1) _ (by omega) HLO.out HDJ.out).mono ?_
          rintro e w5 ⟨rfl, hb5⟩
          have HB5 := Lib.hid (HB.out.trans ((Below.ahead hb5 (by simp)).mono hbs))
          clear hb5
          go_wp2_with fail
          go_roundw
          case rel => exact ⟨j + 1, by go_num, by omega, HB5.out⟩
          case measure => simp [intOf]; omega
        · have r0 := (hb.cell (p := ⟨w.heap.size, 0, none⟩) hlt3).trans q0
          have r1 := (hb.cell (p := ⟨w.heap.size, 1, none⟩) hlt3).trans q1
          have r2 := (hb.cell (p := ⟨w.heap.size, 2, none⟩) hlt3).trans q2
          have r3 := (hb.cell (p := ⟨w.heap.size, 3, none⟩) hlt3).trans q3
          have HB4 := Lib.hid (HB3.out.trans (hb.mono HB3.out.size))
          have hlt4 : w.heap.size < wr.heap.size := by omega
          clear hb q0 q1 q2 q3
          go_wp2_with fail
          refine (news_any _ t _ _ (Nat.le_refl _) (by have := HTS.out; omega) (HT.out.later HB4.out HB4.out.size)).mono ?_
          rintro e w5 ⟨rfl, hb5⟩
          have s0 := (hb5.cell (p := ⟨w.heap.size, 0, none⟩) hlt4).trans r0
          have s1 := (hb5.cell (p := ⟨w.heap.size, 1, none⟩) hlt4).trans r1
          have s2 := (hb5.cell (p := ⟨w.heap.size, 2, none⟩) hlt4).trans r2
          have s3 := (hb5.cell (p := ⟨w.heap.size, 3, none⟩) hlt4).trans r3
          have HB5 := Lib.hid (HB4.out.trans (hb5.mono HB4.out.size))
          clear hb5 r0 r1 r2 r3
          have hnp : (0 : Int) ≤ (newsF t : Int) := by omega
          generalize hnt : (newsF t : Int) = nt at *
          have e4 : (after == next + nt) = true := by have := HNW.out; simp; omega
          clear hnt
          go_wp2_with fail
          refine (check_any t _ (next - 1) _ (by have := HTS.out; omega) (HT.out.later HB5.out HB5.out.size)).mono ?_
          rintro e w6 ⟨rfl, hb6⟩
          rw [HCE.out]
          have HB6 := Lib.hid (HB5.out.trans (hb6.mono HB5.out.size))
          clear hb6
          go_wp2_with fail
          go_ret
          exact ⟨rfl, HB6.out⟩
    · have hg := gatesF_err t next herr
      have hne : ((gatesF t next).2.2.2 != 0) = true := by simpa using herr
      generalize (gatesF t next).2.2.2 = ec at *
      rw [hg] at HD3 ⊢
      simp only at HD3 ⊢
      obtain ⟨a, b, o, cap, he, _⟩ := lins_open HD3.out
      simp only [List.cons.injEq, and_true, List.length_nil] at he
      subst he
      clear hg herr
      go_wp2_with fail
      go_ret
      exact ⟨rfl, HB3.out⟩

set_option maxRecDepth 100000 in
theorem fits_contract (H : Type) (enc : TypeId × Value → H) (W : World) (base : Nat) (args : Array Value) (ds gs : List (DataW H)) (before : List MemPlace)
    (hval : ∀ (j : Nat) t v, Try.f6.params[j]? = some t → args[j]? = some v → Value.okWide Try.prog W .any base t v)
    (hW : DataW.Whole enc Try.prog Try.f6.params.toList Rows.gateFitsSpec.vars false W args.toList ds gs before) (hk : Rows.uptoSmall H (ds ++ gs) = true) :
    Calls Try.prog 6 args W fun e W' => ∃ v, e = .returned v ∧ Rows.gateFitsSpec.post enc Try.prog Try.f6 false true false false W args v W' := by
  have hW' := hW
  obtain ⟨p, q, hA0, hV, rfl, hfz, hnd⟩ := hW
  have r_ : DataW.TrodAll enc Try.prog W 0 (fun _ => true) true Try.f6.params.toList args.toList ds p := hA0
  rw [Try.params6] at r_ hval
  obtain ⟨v0, vs0, d0, ds0, p0, q0, hargs, rfl, rfl, h0, r0⟩ := trodAll_cons r_
  obtain ⟨v1, vs1, d1, ds1, p1, q1, rfl, rfl, rfl, h1, r1⟩ := trodAll_cons r0
  obtain ⟨rfl, rfl, rfl⟩ := trodAll_nil r1
  obtain rfl : args = #[v0, v1] := by cases args; simp_all
  obtain ⟨rfl, rfl⟩ := trodVars_none hV
  obtain ⟨t0, e0, g0⟩ := tree_arg (hval 0 _ v0 rfl rfl) h0
  obtain ⟨z1, rfl, rfl, rfl, hw1⟩ := open_int Try.underlying3 (hval 1 _ v1 rfl rfl) h1
  have hb := small_bulk hk
  simp only [List.append_nil, D.ofAll, D.of, D.bulk, bulks, e0] at hb
  have s0 := Tr.bulk_size t0
  refine (fits_walk t0 v0 z1 W (by omega) g0 (wf_i64 hw1)).mono fun e W' ⟨he, hb'⟩ => ?_
  subst he
  exact ⟨_, rfl, law_post laid rfl hW' (by kernel_rfl) rfl Try.underlying4 rfl hb'⟩

set_option maxRecDepth 100000 in
theorem fits_lifted (os : Os) (started : os.Started) (H : Type) (enc : TypeId × Value → H) (F : Stop.Interp) :
    ReturnsInHanded {} Try.checked os 6 .any ((Rows.OpenSpec.upto Rows.gateFitsSpec).pre6 enc Try.prog Try.f6 Rows.gateFitsUptoRow.domain false) (((Rows.OpenSpec.upto Rows.gateFitsSpec).at F).post enc Try.prog Try.f6 false true false false) := by
  refine returnsInHanded_of_cond (C := Try.checked) (s := Rows.OpenSpec.upto Rows.gateFitsSpec) (k := Rows.uptoSmall) rfl own started (by kernel_rfl) Try.func6
    (OpenSpec.witness (enc := enc) (C := Try.checked) (s := Rows.OpenSpec.upto Rows.gateFitsSpec) (k := Rows.uptoSmall) rfl false ⟨#[], #[.agg #[.int .i64 0, .int .i64 0, .int .i64 0, .slice none 0 0], .int .i64 0], []⟩ 8 (by kernel_rfl) (by kernel_rfl) (by kernel_rfl)
      (x := ([.agg [.lit (.int .i64 0), .lit (.int .i64 0), .lit (.int .i64 0), .nil], .lit (.int .i64 0)], [], [])) (by kernel_rfl) rfl (by kernel_rfl)) ?_
  intro W base args ds gs before hval hW _ hk _
  exact fits_contract H enc W base args ds gs before hval hW hk

theorem fits_proved : Rows.GateFitsUptoSaid :=
  OpenClaim.holds_of_cond 6 Try.f6 rfl rfl rfl rfl rfl rfl rfl ⟨rfl, rfl, rfl, rfl, rfl⟩ rfl rfl rfl rfl rfl (by kernel_rfl) Try.func6 (by kernel_rfl)
    (of_decide_eq_true (by kernel_rfl)) (by unfold Func.isWrapper; first | (rw [if_pos (by decide +kernel)]; kernel_rfl) | (rw [if_neg (by decide +kernel)]; exact ⟨rfl, rfl⟩))
    (fun os started H enc _ F => fits_lifted os started H enc F)

end Go.Proofs.Ytpacnaeckbcpjaa
