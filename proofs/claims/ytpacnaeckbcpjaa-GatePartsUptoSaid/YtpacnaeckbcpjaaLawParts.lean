/- GateParts: for all lists of ground formulas and every next variable, where what comes in is of bulk at most 1048576, the law returns true: encoding a concatenation is encoding the parts in sequence. -/
import Derived.Test.YtpacnaeckbcpjaaLive
import Derived.Test.YtpacnaeckbcpjaaInts
import Derived.Test.YtpacnaeckbcpjaaPartsLaw
import Derived.Test.YtpacnaeckbcpjaaAppendSrc
import Derived.Test.YtpacnaeckbcpjaaTreeArg
namespace Go.Proofs.Ytpacnaeckbcpjaa
open Go.ChangeShapes Go.WideShapes Go.ChangeAt Go.RowKit Go.Chalk

theorem tree_info : (Try.prog.info? 24).map (fun i => (i.zero, i.size, i.bytes)) = some (some (.agg #[.int .i64 0, .int .i64 0, .int .i64 0, .slice none 0 0]), 4, 48) := by kernel_rfl
theorem trees_widths : ∀ l : List Tr, widths (l.map Tr.toD) = (l.map Tr.toD).length * 4
  | [] => rfl
  | t :: r => by have := trees_widths r; simp only [List.map_cons, widths, Tr.width, List.length_cons] at this ⊢; omega
theorem sizes_append : ∀ a b : List Tr, sizes (a ++ b) = sizes a + sizes b
  | [], b => by simp [sizes]
  | t :: a, b => by rw [List.cons_append, sizes, sizes, sizes_append a b]; omega
/-- A slice of the call's own, read in the whole memory. -/
theorem own_read {w : World} {F : Nat → Prop} {e : TypeId} {sz : Nat} {v : Value} {r : Option Nat} {xs : List D} (h : Chalk.Own w F e sz v r xs) (hw : widths xs = xs.length * sz) : DAt w (· < w.heap.size) (.sl xs) [v] :=
  h.read (fun k hk => h.lt k hk) (fun _ hk => h.row_lt hk) hw

set_option maxRecDepth 100000 in
set_option maxHeartbeats 1000000 in
theorem parts_walk (a : List Tr) (x : Value) (b : List Tr) (y : Value) (next : Int) (w : World) (ha : sizes a ≤ 2000000) (hda : DAt w (· < w.heap.size) (.sl (a.map Tr.toD)) [x]) (hb : sizes b ≤ 2000000) (hdb : DAt w (· < w.heap.size) (.sl (b.map Tr.toD)) [y]) (_ : -9223372036854775808 ≤ next ∧ next ≤ 9223372036854775807) :
    Calls Try.prog 5 #[x, y, .int .i64 next] w fun e w' => e = .returned (.bool true) ∧ Below w.heap.size w w' := by
  have HA := Lib.hid hda
  have HB := Lib.hid hdb
  clear hda hdb
  obtain ⟨i0, hi, hz0, hz1, hz2⟩ := info_parts sums_info
  obtain ⟨i1, hi1, hy0, hy1, hy2⟩ := info_parts put_info
  obtain ⟨i2, hi2, ht0, ht1, ht2⟩ := info_parts tree_info
  go_enter Try.func5, Try.ntmps5
  go_wp2_with fail
  refine (live_any _).mono ?_
  rintro e w1 ⟨rfl, hb1⟩
  have HB1 := Lib.hid hb1
  clear hb1
  go_wp2_with fail
  refine (few_any a 500 _ _ (HA.out.below HB1.out) ha (by omega)).mono ?_
  rintro e w2 ⟨bf, rfl, hbf, hb2⟩
  have HBF := Lib.hid hbf
  have HB2 := Lib.hid (HB1.out.trans (hb2.mono HB1.out.size))
  clear hbf hb2
  cases bf with
  | false =>
    go_wp2_with fail
    go_ret
    exact ⟨rfl, HB2.out⟩
  | true =>
    go_wp2_with fail
    refine (few_any b 500 _ _ (HB.out.below HB2.out) hb (by omega)).mono ?_
    rintro e w3 ⟨bg, rfl, hbg, hb3⟩
    have HBG := Lib.hid hbg
    have HB3 := Lib.hid (HB2.out.trans (hb3.mono HB2.out.size))
    clear hbg hb3
    cases bg with
    | false =>
      go_wp2_with fail
      go_ret
      exact ⟨rfl, HB3.out⟩
    | true =>
      have hsa : sizes a ≤ 500 := by have := (HBF.out (by first | rfl | trivial)).2; omega
      have hsb : sizes b ≤ 500 := by have := (HBG.out (by first | rfl | trivial)).2; omega
      have hla := length_le_sizes a
      have hlb := length_le_sizes b
      clear HBF HBG ha hb
      go_wp2_with fail
      refine (all_any a next _ _ (HA.out.below HB3.out) (by omega)).mono ?_
      rintro e w4 ⟨vx, vl, rfl, hx4, hl4, hb4⟩
      have HB4 := Lib.hid (HB3.out.trans (hb4.mono HB3.out.size))
      have HX4 : Hid (DAt w4 (· < w4.heap.size) (.sl (dints (allF a next).1)) [vx]) := DAt.mono (fun k hk => hk.2) _ _ hx4
      have HL4 : Hid (DAt w4 (· < w4.heap.size) (.sl ((allF a next).2.1.map Lin.toD)) [vl]) := DAt.mono (fun k hk => hk.2) _ _ hl4
      clear hx4 hl4 hb4
      have HA4 := Lib.hid (HA.out.below HB4.out)
      have HBB4 := Lib.hid (HB.out.below HB4.out)
      have HN4 := Lib.hid (Chalk.Own.nil w4 (· < w4.heap.size) 24 4 (fun _ h => h))
      go_wp2_with (first | (at_builtin; refine wpList_append_src _ (by rfl) _ _ _ rfl 24 i2 _ 4 48 Try.underlying22 hi2 ht0 ht1 ht2 rfl (by omega) (.slice none 0 0) x (· < w4.heap.size) none [] (a.map Tr.toD) rfl rfl HN4.out HA4.out (trees_widths a) (by simp; unfold maxLen; omega) (by simp; omega) ?_; intro oa ocap orow w5 hown hmod hat; simp only [List.length_nil, List.length_map, Nat.zero_add, List.nil_append] at hown ⊢; have HO5 := Lib.hid hown; have HM5 := Lib.hid hmod; clear hown hmod hat) | (at_builtin; go_must (refine wpList_append_src _ (by rfl) _ _ _ rfl 24 i2 _ 4 48 Try.underlying22 hi2 ht0 ht1 ht2 rfl (by omega) (.slice oa a.length ocap) y (· < w4.heap.size) orow (a.map Tr.toD) (b.map Tr.toD) rfl rfl HO5.out (DAt.agree (HM5.out.agree (fun k hk => ⟨hk, fun e => by cases e⟩)) _ _ HBB4.out) (trees_widths b) (by simp; unfold maxLen; omega) (by simp; omega) ?_); intro pa pcap prow w6 hown hmod hat; simp only [List.length_map] at hown ⊢; have HO6 := Lib.hid hown; have HM6 := Lib.hid hmod; clear hown hmod hat))
      have hbb6 : Below w4.heap.size w4 w6 := by
        have m5 : Chalk.Mod (fun _ => False) w4 w5 := HM5.out.mono (fun k hk => by cases hk)
        have b5 : Below w4.heap.size w4 w5 := m5.below (Nat.le_refl _) (fun _ h => h.elim)
        refine b5.trans (HM6.out.below b5.size (fun k hk => ?_))
        have h1 : ¬ k < w4.heap.size := HO5.out.off k hk
        omega
      have HBB6 := Lib.hid hbb6
      have HB6 := Lib.hid (HB4.out.trans (hbb6.mono HB4.out.size))
      have HAB : Hid (DAt w6 (· < w6.heap.size) (.sl ((a ++ b).map Tr.toD)) [.slice pa (a.length + b.length) pcap]) := by
        have h := own_read HO6.out (by rw [← List.map_append]; exact trees_widths _)
        rw [List.map_append]; exact h
      clear hbb6
      refine (all_any (a ++ b) next _ _ HAB.out (by rw [sizes_append]; omega)).mono ?_
      rintro e w7 ⟨vy, vm, rfl, hy7, hm7, hb7⟩
      have HB7 := Lib.hid (HB6.out.trans (hb7.mono HB6.out.size))
      have HB47 := Lib.hid (HBB6.out.trans (hb7.mono HBB6.out.size))
      have HY7 : Hid (DAt w7 (· < w7.heap.size) (.sl (dints (allF (a ++ b) next).1)) [vy]) := DAt.mono (fun k hk => hk.2) _ _ hy7
      have HM7 : Hid (DAt w7 (· < w7.heap.size) (.sl ((allF (a ++ b) next).2.1.map Lin.toD)) [vm]) := DAt.mono (fun k hk => hk.2) _ _ hm7
      clear hy7 hm7 hb7
      obtain ⟨va, vn, vcap, hvm, hvn⟩ : ∃ va vn cap, vm = .slice va vn cap ∧ vn = ((allF (a ++ b) next).2.1).length := by
        have h := HM7.out
        rw [DAt] at h
        obtain ⟨va, _, _, cap, h, _⟩ := h
        simp at h
        exact ⟨va, _, cap, h, rfl⟩
      subst hvm
      have HVN := Lib.hid hvn
      clear hvn
      have hlenA := allF_len a next
      by_cases herr : (allF a next).2.2.2 = 0
      · have hab := allF_app_ok a b next herr
        generalize hGA : allF a next = gA at *
        obtain ⟨xs, ls, nx, ea⟩ := gA
        simp only at herr hab HX4 HL4 hlenA ⊢
        subst herr
        have hnx : nx = (allF a next).2.2.1 := by rw [hGA]
        clear hGA hnx
        have hlenB := allF_len b nx
        by_cases hg : (allF b nx).2.2.2 = 0
        · rw [if_neg (by simpa using hg)] at hab
          rw [hab] at HY7 HM7 ⊢
          clear hab
          go_wp2_with fail
          refine (all_any b nx _ _ (HB.out.below HB7.out) (by omega)).mono ?_
          rintro e w8 ⟨vz, vo, rfl, hz8, ho8, hb8⟩
          have HB8 := Lib.hid (HB7.out.trans (hb8.mono HB7.out.size))
          have HZ8 : Hid (DAt w8 (· < w8.heap.size) (.sl (dints (allF b nx).1)) [vz]) := DAt.mono (fun k hk => hk.2) _ _ hz8
          have HO8 : Hid (DAt w8 (· < w8.heap.size) (.sl ((allF b nx).2.1.map Lin.toD)) [vo]) := DAt.mono (fun k hk => hk.2) _ _ ho8
          have HX8 := Lib.hid ((HX4.out.below HB47.out).below hb8)
          have HL8 := Lib.hid ((HL4.out.below HB47.out).below hb8)
          have HY8 := Lib.hid (HY7.out.below hb8)
          have HM8 := Lib.hid (HM7.out.below hb8)
          clear hz8 ho8 hb8 HX4 HL4 HY7 HM7
          generalize allF b nx = gB at *
          obtain ⟨zs, os, ix, eb⟩ := gB
          simp only at hg HZ8 HO8 HY8 HM8 hlenB ⊢
          subst hg
          have e3 : (ix == ix) = true := by simp
          have HNI := Lib.hid (Chalk.Own.nil w8 (· < w8.heap.size) 3 1 (fun _ h => h))
          go_wp2_with (first | (at_builtin; refine wpList_append_src _ (by rfl) _ _ _ rfl 3 i0 _ 1 8 Try.underlying34 hi hz0 hz1 hz2 rfl (by omega) (.slice none 0 0) vx (· < w8.heap.size) none [] (dints xs) rfl rfl HNI.out HX8.out (by rw [dints_widths]; simp) (by simp; unfold maxLen; omega) (by simp; omega) ?_; intro oa ocap orow w9 hown hmod hat; simp only [List.length_nil, dints_length, Nat.zero_add, List.nil_append] at hown ⊢; have HO9 := Lib.hid hown; have HM9 := Lib.hid hmod; clear hown hmod hat) | (at_builtin; go_must (refine wpList_append_src _ (by rfl) _ _ _ rfl 3 i0 _ 1 8 Try.underlying34 hi hz0 hz1 hz2 rfl (by omega) (.slice oa xs.length ocap) vz (· < w8.heap.size) orow (dints xs) (dints zs) rfl rfl HO9.out (DAt.agree (HM9.out.agree (fun k hk => ⟨hk, fun e => by cases e⟩)) _ _ HZ8.out) (by rw [dints_widths]; simp) (by simp; unfold maxLen; omega) (by simp; omega) ?_); intro pa pcap prow w10 hown hmod hat; simp only [dints_length] at hown ⊢; have HO10 := Lib.hid hown; have HM10 := Lib.hid hmod; clear hown hmod hat))
          have hb810 : Below w8.heap.size w8 w10 := by
            have m5 : Chalk.Mod (fun _ => False) w8 w9 := HM9.out.mono (fun k hk => by cases hk)
            have b5 : Below w8.heap.size w8 w9 := m5.below (Nat.le_refl _) (fun _ h => h.elim)
            refine b5.trans (HM10.out.below b5.size (fun k hk => ?_))
            have h1 : ¬ k < w8.heap.size := HO9.out.off k hk
            omega
          have HXZ : Hid (DAt w10 (· < w10.heap.size) (.sl (dints (xs ++ zs))) [.slice pa (xs.length + zs.length) pcap]) := by
            rw [dints_append]; exact own_read HO10.out (by rw [← dints_append, dints_widths]; simp)
          have HY10 := Lib.hid (HY8.out.below hb810)
          have HM10' := Lib.hid (HM8.out.below hb810)
          have HL10 := Lib.hid (HL8.out.below hb810)
          have HOO10 := Lib.hid (HO8.out.below hb810)
          have HB10 := Lib.hid (HB8.out.trans (hb810.mono HB8.out.size))
          clear hb810 HO9 HM9 HO10 HM10 HNI
          refine (ints_eq (xs ++ zs) _ _ _ HY10.out HXZ.out).mono ?_
          rintro e w11 ⟨rfl, hb11⟩
          have HM11 := Lib.hid (HM10'.out.below hb11)
          have HL11 := Lib.hid (HL10.out.below hb11)
          have HO11 := Lib.hid (HOO10.out.below hb11)
          have HB11 := Lib.hid (HB10.out.trans (hb11.mono HB10.out.size))
          clear hb11
          have HNI := Lib.hid (Chalk.Own.nil w11 (· < w11.heap.size) 40 3 (fun _ h => h))
          go_wp2_with (first | (at_builtin; refine wpList_append_src _ (by rfl) _ _ _ rfl 40 i1 _ 3 56 Try.underlying27 hi1 hy0 hy1 hy2 rfl (by omega) (.slice none 0 0) vl (· < w11.heap.size) none [] (ls.map Lin.toD) rfl rfl HNI.out HL11.out (by rw [lins_widths]; simp) (by simp; unfold maxLen; omega) (by simp; omega) ?_; intro qa qcap qrow w12 hown hmod hat; simp only [List.length_nil, List.length_map, Nat.zero_add, List.nil_append] at hown ⊢; have HO12 := Lib.hid hown; have HM12 := Lib.hid hmod; clear hown hmod hat) | (at_builtin; go_must (refine wpList_append_src _ (by rfl) _ _ _ rfl 40 i1 _ 3 56 Try.underlying27 hi1 hy0 hy1 hy2 rfl (by omega) (.slice qa ls.length qcap) vo (· < w11.heap.size) qrow (ls.map Lin.toD) (os.map Lin.toD) rfl rfl HO12.out (DAt.agree (HM12.out.agree (fun k hk => ⟨hk, fun e => by cases e⟩)) _ _ HO11.out) (by rw [lins_widths]; simp) (by simp; unfold maxLen; omega) (by simp; omega) ?_); intro ra rcap rrow w13 hown hmod hat; simp only [List.length_map] at hown ⊢; have HO13 := Lib.hid hown; have HM13 := Lib.hid hmod; clear hown hmod hat))
          have hb1113 : Below w11.heap.size w11 w13 := by
            have m5 : Chalk.Mod (fun _ => False) w11 w12 := HM12.out.mono (fun k hk => by cases hk)
            have b5 : Below w11.heap.size w11 w12 := m5.below (Nat.le_refl _) (fun _ h => h.elim)
            refine b5.trans (HM13.out.below b5.size (fun k hk => ?_))
            have h1 : ¬ k < w11.heap.size := HO12.out.off k hk
            omega
          have HLO : Hid (DAt w13 (· < w13.heap.size) (.sl ((ls ++ os).map Lin.toD)) [.slice ra (ls.length + os.length) rcap]) := by
            rw [List.map_append]; exact own_read HO13.out (by rw [← List.map_append, lins_widths]; simp)
          have HM13' := Lib.hid (HM11.out.below hb1113)
          have HB13 := Lib.hid (HB11.out.trans (hb1113.mono HB11.out.size))
          clear hb1113
          refine (sameall_eq (ls ++ os) _ _ _ HM13'.out HLO.out).mono ?_
          rintro e w14 ⟨rfl, hb14⟩
          have HB14 := Lib.hid (HB13.out.trans (hb14.mono HB13.out.size))
          clear hb14
          go_wp2_with fail
          go_ret
          exact ⟨rfl, HB14.out⟩
        · rw [if_pos (by simpa using hg)] at hab
          rw [hab]
          clear hab
          go_wp2_with fail
          refine (all_any b nx _ _ (HB.out.below HB7.out) (by omega)).mono ?_
          rintro e w8 ⟨vz, vo, rfl, hz8, ho8, hb8⟩
          have HB8 := Lib.hid (HB7.out.trans (hb8.mono HB7.out.size))
          have e1 : ((allF b nx).2.2.2 != 0) = true := by simpa using hg
          have e2 : ((allF b nx).2.2.2 == (allF b nx).2.2.2) = true := by simp
          clear hz8 ho8 hb8
          generalize (allF b nx).2.2.2 = ec at *
          generalize (allF b nx).2.2.1 = nx' at *
          clear hg
          go_wp2_with fail
          go_ret
          exact ⟨rfl, HB8.out⟩
      · have hab := allF_app_err a b next herr
        have hv0 := HVN.out
        rw [hab] at hv0 ⊢
        simp only [List.length_nil] at hv0
        subst hv0
        have e1 : ((allF a next).2.2.2 != 0) = true := by simpa using herr
        have e2 : ((allF a next).2.2.2 == (allF a next).2.2.2) = true := by simp
        generalize (allF a next).2.2.2 = ec at *
        generalize (allF a next).2.2.1 = nx at *
        clear hab herr
        go_wp2_with fail
        go_ret
        exact ⟨rfl, HB7.out⟩

set_option maxRecDepth 100000 in
theorem parts_contract (H : Type) (enc : TypeId × Value → H) (W : World) (base : Nat) (args : Array Value) (ds gs : List (DataW H)) (before : List MemPlace)
    (hval : ∀ (j : Nat) t v, Try.f5.params[j]? = some t → args[j]? = some v → Value.okWide Try.prog W .any base t v)
    (hW : DataW.Whole enc Try.prog Try.f5.params.toList Rows.gatePartsSpec.vars false W args.toList ds gs before) (hk : Rows.uptoSmall H (ds ++ gs) = true) :
    Calls Try.prog 5 args W fun e W' => ∃ v, e = .returned v ∧ Rows.gatePartsSpec.post enc Try.prog Try.f5 false true false false W args v W' := by
  have hW' := hW
  obtain ⟨p, q, hA0, hV, rfl, hfz, hnd⟩ := hW
  have r_ : DataW.TrodAll enc Try.prog W 0 (fun _ => true) true Try.f5.params.toList args.toList ds p := hA0
  rw [Try.params5] at r_ hval
  obtain ⟨v0, vs0, d0, ds0, p0, q0, hargs, rfl, rfl, h0, r0⟩ := trodAll_cons r_
  obtain ⟨v1, vs1, d1, ds1, p1, q1, rfl, rfl, rfl, h1, r1⟩ := trodAll_cons r0
  obtain ⟨v2, vs2, d2, ds2, p2, q2, rfl, rfl, rfl, h2, r2⟩ := trodAll_cons r1
  obtain ⟨rfl, rfl, rfl⟩ := trodAll_nil r2
  obtain rfl : args = #[v0, v1, v2] := by cases args; simp_all
  obtain ⟨rfl, rfl⟩ := trodVars_none hV
  obtain ⟨t0, e0, g0⟩ := trees_arg (hval 0 _ v0 rfl rfl) h0
  obtain ⟨t1, e1, g1⟩ := trees_arg (hval 1 _ v1 rfl rfl) h1
  obtain ⟨z2, rfl, rfl, rfl, hw2⟩ := open_int Try.underlying3 (hval 2 _ v2 rfl rfl) h2
  have hb := small_bulk hk
  simp only [List.append_nil, D.ofAll, D.of, D.bulk, bulks, e0, e1] at hb
  have s0 := Tr.bulks_sizes t0
  rw [Tr.toDs_eq] at s0
  have s1 := Tr.bulks_sizes t1
  rw [Tr.toDs_eq] at s1
  refine (parts_walk t0 v0 t1 v1 z2 W (by omega) g0 (by omega) g1 (wf_i64 hw2)).mono fun e W' ⟨he, hb'⟩ => ?_
  subst he
  exact ⟨_, rfl, law_post laid rfl hW' (by kernel_rfl) rfl Try.underlying4 rfl hb'⟩

set_option maxRecDepth 100000 in
theorem parts_lifted (os : Os) (started : os.Started) (H : Type) (enc : TypeId × Value → H) (F : Stop.Interp) :
    ReturnsInHanded {} Try.checked os 5 .any ((Rows.OpenSpec.upto Rows.gatePartsSpec).pre6 enc Try.prog Try.f5 Rows.gatePartsUptoRow.domain false) (((Rows.OpenSpec.upto Rows.gatePartsSpec).at F).post enc Try.prog Try.f5 false true false false) := by
  refine returnsInHanded_of_cond (C := Try.checked) (s := Rows.OpenSpec.upto Rows.gatePartsSpec) (k := Rows.uptoSmall) rfl own started (by kernel_rfl) Try.func5
    (OpenSpec.witness (enc := enc) (C := Try.checked) (s := Rows.OpenSpec.upto Rows.gatePartsSpec) (k := Rows.uptoSmall) rfl false ⟨#[], #[.slice none 0 0, .slice none 0 0, .int .i64 0], []⟩ 8 (by kernel_rfl) (by kernel_rfl) (by kernel_rfl)
      (x := ([.nil, .nil, .lit (.int .i64 0)], [], [])) (by kernel_rfl) rfl (by kernel_rfl)) ?_
  intro W base args ds gs before hval hW _ hk _
  exact parts_contract H enc W base args ds gs before hval hW hk

theorem parts_proved : Rows.GatePartsUptoSaid :=
  OpenClaim.holds_of_cond 5 Try.f5 rfl rfl rfl rfl rfl rfl rfl ⟨rfl, rfl, rfl, rfl, rfl⟩ rfl rfl rfl rfl rfl (by kernel_rfl) Try.func5 (by kernel_rfl)
    (of_decide_eq_true (by kernel_rfl)) (by unfold Func.isWrapper; first | (rw [if_pos (by decide +kernel)]; kernel_rfl) | (rw [if_neg (by decide +kernel)]; exact ⟨rfl, rfl⟩))
    (fun os started H enc _ F => parts_lifted os started H enc F)

end Go.Proofs.Ytpacnaeckbcpjaa
