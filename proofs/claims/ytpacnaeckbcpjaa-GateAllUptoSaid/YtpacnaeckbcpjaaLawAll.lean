/- GateAll: for every list of ground formulas and next variable, where what comes in is of bulk at most 1048576, the law returns true: All agrees with the reference. -/
import Derived.Test.YtpacnaeckbcpjaaLive
import Derived.Test.YtpacnaeckbcpjaaAllRef
import Derived.Test.YtpacnaeckbcpjaaTreeArg
namespace Go.Proofs.Ytpacnaeckbcpjaa
open Go.ChangeShapes Go.WideShapes Go.ChangeAt Go.RowKit Go.Chalk

set_option maxRecDepth 100000 in
set_option maxHeartbeats 1000000 in
theorem lawall_walk (l : List Tr) (x : Value) (next : Int) (w : World) (hs : sizes l ≤ 2000000) (hd : DAt w (· < w.heap.size) (.sl (l.map Tr.toD)) [x]) (_ : -9223372036854775808 ≤ next ∧ next ≤ 9223372036854775807) :
    Calls Try.prog 4 #[x, .int .i64 next] w fun e w' => e = .returned (.bool true) ∧ Below w.heap.size w w' := by
  have HD := Lib.hid hd
  clear hd
  go_enter Try.func4, Try.ntmps4
  go_wp2_with fail
  refine (live_any _).mono ?_
  rintro e w1 ⟨rfl, hb1⟩
  have HB1 := Lib.hid hb1
  clear hb1
  go_wp2_with fail
  refine (few_any l 2000 _ _ (HD.out.below HB1.out) hs (by omega)).mono ?_
  rintro e w2 ⟨bf, rfl, hbf, hb2⟩
  have HBF := Lib.hid hbf
  have HB2 := Lib.hid (HB1.out.trans (hb2.mono HB1.out.size))
  clear hbf hb2
  cases bf with
  | false =>
    go_wp2_with fail
    go_ret
    exact ⟨rfl, HB2.out⟩
  | true =>
    have HSZ : Hid (sizes l ≤ 200000) := by have := (HBF.out rfl).2; show _ ≤ _; omega
    go_wp2_with fail
    refine (all_any l next _ _ (HD.out.below HB2.out) HSZ.out).mono ?_
    rintro e w3 ⟨vL, vS, rfl, hL, hS, hb3⟩
    have HB3 := Lib.hid (HB2.out.trans (hb3.mono HB2.out.size))
    have HL3 : Hid (DAt w3 (· < w3.heap.size) (.sl (dints (allF l next).1)) [vL]) := DAt.mono (fun k hk => hk.2) _ _ hL
    have HS3 : Hid (DAt w3 (· < w3.heap.size) (.sl ((allF l next).2.1.map Lin.toD)) [vS]) := DAt.mono (fun k hk => hk.2) _ _ hS
    clear hL hS hb3
    go_wp2_with fail
    refine (all_ref l next _ _ (HD.out.below HB3.out) HSZ.out).mono ?_
    rintro e w4 ⟨vL', vS', rfl, hL, hS, hb4⟩
    have HB4 := Lib.hid (HB3.out.trans (hb4.mono HB3.out.size))
    have HL4 : Hid (DAt w4 (· < w4.heap.size) (.sl (dints (allF l next).1)) [vL']) := DAt.mono (fun k hk => hk.2) _ _ hL
    have HS4 : Hid (DAt w4 (· < w4.heap.size) (.sl ((allF l next).2.1.map Lin.toD)) [vS']) := DAt.mono (fun k hk => hk.2) _ _ hS
    have HL3' := Lib.hid (HL3.out.below hb4)
    have HS3' := Lib.hid (HS3.out.below hb4)
    clear hL hS hb4 HL3 HS3
    generalize allF l next = g at *
    obtain ⟨g1, g2, g3, g4⟩ := g
    have e3 : (g3 == g3) = true := by simp
    have e4 : (g4 == g4) = true := by simp
    go_wp2_with fail
    refine (ints_eq g1 _ _ _ HL3'.out HL4.out).mono ?_
    rintro e w5 ⟨rfl, hb5⟩
    have HB5 := Lib.hid (HB4.out.trans (hb5.mono HB4.out.size))
    have HA := Lib.hid (HS3'.out.below hb5)
    have HB := Lib.hid (HS4.out.below hb5)
    clear hb5
    go_wp2_with fail
    refine (sameall_eq g2 _ _ _ HA.out HB.out).mono ?_
    rintro e w6 ⟨rfl, hb6⟩
    have HB6 := Lib.hid (HB5.out.trans (hb6.mono HB5.out.size))
    clear hb6
    go_wp2_with fail
    go_ret
    exact ⟨rfl, HB6.out⟩

set_option maxRecDepth 100000 in
theorem lawall_contract (H : Type) (enc : TypeId × Value → H) (W : World) (base : Nat) (args : Array Value) (ds gs : List (DataW H)) (before : List MemPlace)
    (hval : ∀ (j : Nat) t v, Try.f4.params[j]? = some t → args[j]? = some v → Value.okWide Try.prog W .any base t v)
    (hW : DataW.Whole enc Try.prog Try.f4.params.toList Rows.gateAllSpec.vars false W args.toList ds gs before) (hk : Rows.uptoSmall H (ds ++ gs) = true) :
    Calls Try.prog 4 args W fun e W' => ∃ v, e = .returned v ∧ Rows.gateAllSpec.post enc Try.prog Try.f4 false true false false W args v W' := by
  have hW' := hW
  obtain ⟨p, q, hA0, hV, rfl, hfz, hnd⟩ := hW
  have r_ : DataW.TrodAll enc Try.prog W 0 (fun _ => true) true Try.f4.params.toList args.toList ds p := hA0
  rw [Try.params4] at r_ hval
  obtain ⟨v0, vs0, d0, ds0, p0, q0, hargs, rfl, rfl, h0, r0⟩ := trodAll_cons r_
  obtain ⟨v1, vs1, d1, ds1, p1, q1, rfl, rfl, rfl, h1, r1⟩ := trodAll_cons r0
  obtain ⟨rfl, rfl, rfl⟩ := trodAll_nil r1
  obtain rfl : args = #[v0, v1] := by cases args; simp_all
  obtain ⟨rfl, rfl⟩ := trodVars_none hV
  obtain ⟨t0, e0, g0⟩ := trees_arg (hval 0 _ v0 rfl rfl) h0
  obtain ⟨z1, rfl, rfl, rfl, hw1⟩ := open_int Try.underlying3 (hval 1 _ v1 rfl rfl) h1
  have hb := small_bulk hk
  simp only [List.append_nil, D.ofAll, D.of, D.bulk, bulks, e0] at hb
  have s0 := Tr.bulks_sizes t0
  rw [Tr.toDs_eq] at s0
  refine (lawall_walk t0 v0 z1 W (by omega) g0 (wf_i64 hw1)).mono fun e W' ⟨he, hb'⟩ => ?_
  subst he
  exact ⟨_, rfl, law_post laid rfl hW' (by kernel_rfl) rfl Try.underlying4 rfl hb'⟩

set_option maxRecDepth 100000 in
theorem lawall_lifted (os : Os) (started : os.Started) (H : Type) (enc : TypeId × Value → H) (F : Stop.Interp) :
    ReturnsInHanded {} Try.checked os 4 .any ((Rows.OpenSpec.upto Rows.gateAllSpec).pre6 enc Try.prog Try.f4 Rows.gateAllUptoRow.domain false) (((Rows.OpenSpec.upto Rows.gateAllSpec).at F).post enc Try.prog Try.f4 false true false false) := by
  refine returnsInHanded_of_cond (C := Try.checked) (s := Rows.OpenSpec.upto Rows.gateAllSpec) (k := Rows.uptoSmall) rfl own started (by kernel_rfl) Try.func4
    (OpenSpec.witness (enc := enc) (C := Try.checked) (s := Rows.OpenSpec.upto Rows.gateAllSpec) (k := Rows.uptoSmall) rfl false ⟨#[], #[.slice none 0 0, .int .i64 0], []⟩ 8 (by kernel_rfl) (by kernel_rfl) (by kernel_rfl)
      (x := ([.nil, .lit (.int .i64 0)], [], [])) (by kernel_rfl) rfl (by kernel_rfl)) ?_
  intro W base args ds gs before hval hW _ hk _
  exact lawall_contract H enc W base args ds gs before hval hW hk

theorem lawall_proved : Rows.GateAllUptoSaid :=
  OpenClaim.holds_of_cond 4 Try.f4 rfl rfl rfl rfl rfl rfl rfl ⟨rfl, rfl, rfl, rfl, rfl⟩ rfl rfl rfl rfl rfl (by kernel_rfl) Try.func4 (by kernel_rfl)
    (of_decide_eq_true (by kernel_rfl)) (by unfold Func.isWrapper; first | (rw [if_pos (by decide +kernel)]; kernel_rfl) | (rw [if_neg (by decide +kernel)]; exact ⟨rfl, rfl⟩))
    (fun os started H enc _ F => lawall_lifted os started H enc F)

end Go.Proofs.Ytpacnaeckbcpjaa
