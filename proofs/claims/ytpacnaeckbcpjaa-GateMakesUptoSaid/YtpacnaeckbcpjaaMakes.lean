/- GateMakes: for every ground formula and next variable, where what comes in is of bulk at most 1048576, the law returns true: Gates agrees with the reference. -/
import Derived.Test.YtpacnaeckbcpjaaLive
import Derived.Test.YtpacnaeckbcpjaaTreeArg
namespace Go.Proofs.Ytpacnaeckbcpjaa
open Go.ChangeShapes Go.WideShapes Go.ChangeAt Go.RowKit Go.Chalk

set_option maxRecDepth 100000 in
set_option maxHeartbeats 1000000 in
theorem makes_walk (t : Tr) (x : Value) (next : Int) (w : World) (hs : t.size ≤ 2000000) (ht : TreeV w (· < w.heap.size) t x) :
    Calls Try.prog 3 #[x, .int .i64 next] w fun e w' => e = .returned (.bool true) ∧ Below w.heap.size w w' := by
  have HT := Lib.hid ht
  obtain ⟨c0, c1, c2, c3, rfl, h⟩ := ht
  obtain ⟨k0, k1, k2, a1, n1, cap1, rfl, rfl, rfl, rfl⟩ := TreeV.shape h
  clear h
  go_enter Try.func3, Try.ntmps3
  go_wp2_with fail
  refine (live_any _).mono ?_
  rintro e w1 ⟨rfl, hb1⟩
  obtain ⟨q0, q1, q2, q3⟩ := boxed4 hb1 (by simp)
  have hbb := Below.ahead hb1 (by simp)
  have HB1 := Lib.hid hbb
  have hlt1 : w.heap.size < w1.heap.size := by have := hb1.size; simp at this; omega
  clear hb1 hbb
  go_wp2_with fail
  refine (size_any _ t _ _ (Nat.le_refl _) hs (HT.out.later HB1.out HB1.out.size)).mono ?_
  rintro e w2 ⟨rfl, hb2⟩
  have p0 := (hb2.cell (p := ⟨w.heap.size, 0, none⟩) hlt1).trans q0
  have p1 := (hb2.cell (p := ⟨w.heap.size, 1, none⟩) hlt1).trans q1
  have p2 := (hb2.cell (p := ⟨w.heap.size, 2, none⟩) hlt1).trans q2
  have p3 := (hb2.cell (p := ⟨w.heap.size, 3, none⟩) hlt1).trans q3
  have hlt2 : w.heap.size < w2.heap.size := by have := hb2.size; omega
  have HB2 := Lib.hid (HB1.out.trans (hb2.mono HB1.out.size))
  clear hb2 q0 q1 q2 q3
  by_cases hbig : 2000 < t.size
  · have hbig' : (2000 : Int) < (t.size : Int) := by omega
    go_wp2_with fail
    go_ret
    exact ⟨rfl, HB2.out⟩
  · have hbig' : ¬ (2000 : Int) < (t.size : Int) := by omega
    have HTS : Hid (t.size ≤ 200000) := by show _ ≤ _; omega
    generalize hts : (t.size : Int) = ts at *
    clear hts
    go_wp2_with fail
    refine (gates_any t _ next _ HTS.out (HT.out.later HB2.out HB2.out.size)).mono ?_
    rintro e w3 ⟨v3, rfl, hN3, hb3⟩
    have q0 := (hb3.cell (p := ⟨w.heap.size, 0, none⟩) hlt2).trans p0
    have q1 := (hb3.cell (p := ⟨w.heap.size, 1, none⟩) hlt2).trans p1
    have q2 := (hb3.cell (p := ⟨w.heap.size, 2, none⟩) hlt2).trans p2
    have q3 := (hb3.cell (p := ⟨w.heap.size, 3, none⟩) hlt2).trans p3
    have HB3 := Lib.hid (HB2.out.trans (hb3.mono HB2.out.size))
    have HN3 := Lib.hid hN3
    clear hb3 hN3 p0 p1 p2 p3
    go_wp2_with fail
    refine (gates_ref t _ next _ hs (HT.out.later HB3.out HB3.out.size)).mono ?_
    rintro e w4 ⟨v4, rfl, hN4, hb4⟩
    have HB4 := Lib.hid (HB3.out.trans (hb4.mono HB3.out.size))
    have HD3 : Hid (DAt w4 (· < w4.heap.size) (.sl ((gatesF t next).2.1.map Lin.toD)) [v3]) := DAt.below (DAt.mono (fun k hk => hk.2) _ _ HN3.out) hb4
    have HD4 : Hid (DAt w4 (· < w4.heap.size) (.sl ((gatesF t next).2.1.map Lin.toD)) [v4]) := DAt.mono (fun k hk => hk.2) _ _ hN4
    clear hb4 hN4 q0 q1 q2 q3 HN3
    generalize gatesF t next = g at *
    obtain ⟨g1, g2, g3, g4⟩ := g
    have e1 : (g1 == g1) = true := by simp
    have e3 : (g3 == g3) = true := by simp
    have e4 : (g4 == g4) = true := by simp
    go_wp2_with fail
    refine (sameall_eq g2 _ _ _ HD3.out HD4.out).mono ?_
    rintro e w5 ⟨rfl, hb5⟩
    have HB5 := Lib.hid (HB4.out.trans (hb5.mono HB4.out.size))
    clear hb5
    go_wp2_with fail
    go_ret
    exact ⟨rfl, HB5.out⟩

set_option maxRecDepth 100000 in
theorem makes_contract (H : Type) (enc : TypeId × Value → H) (W : World) (base : Nat) (args : Array Value) (ds gs : List (DataW H)) (before : List MemPlace)
    (hval : ∀ (j : Nat) t v, Try.f3.params[j]? = some t → args[j]? = some v → Value.okWide Try.prog W .any base t v)
    (hW : DataW.Whole enc Try.prog Try.f3.params.toList Rows.gateMakesSpec.vars false W args.toList ds gs before) (hk : Rows.uptoSmall H (ds ++ gs) = true) :
    Calls Try.prog 3 args W fun e W' => ∃ v, e = .returned v ∧ Rows.gateMakesSpec.post enc Try.prog Try.f3 false true false false W args v W' := by
  have hW' := hW
  obtain ⟨p, q, hA0, hV, rfl, hfz, hnd⟩ := hW
  have hA : DataW.TrodAll enc Try.prog W 0 (fun _ => true) true Try.f3.params.toList args.toList ds p := hA0
  rw [Try.params3] at hA hval
  obtain ⟨v0, vs0, d0, ds0, p0, q0, hargs, rfl, rfl, h0, r0⟩ := trodAll_cons hA
  obtain ⟨v1, vs1, d1, ds1, p1, q1, rfl, rfl, rfl, h1, r1⟩ := trodAll_cons r0
  obtain ⟨rfl, rfl, rfl⟩ := trodAll_nil r1
  obtain rfl : args = #[v0, v1] := by cases args; simp_all
  obtain ⟨rfl, rfl⟩ := trodVars_none hV
  obtain ⟨t, ht, hT⟩ := tree_arg (hval 0 _ v0 rfl rfl) h0
  obtain ⟨next, rfl, rfl, rfl, hwf⟩ := open_int Try.underlying3 (hval 1 _ v1 rfl rfl) h1
  have hb := small_bulk hk
  simp only [List.append_nil, D.ofAll, bulks, ht] at hb
  have hs := Tr.bulk_size t
  refine (makes_walk t v0 next W (by omega) hT).mono fun e W' ⟨he, hb'⟩ => ?_
  subst he
  exact ⟨_, rfl, law_post laid rfl hW' (by kernel_rfl) rfl Try.underlying4 rfl hb'⟩

set_option maxRecDepth 100000 in
theorem makes_lifted (os : Os) (started : os.Started) (H : Type) (enc : TypeId × Value → H) (F : Stop.Interp) :
    ReturnsInHanded {} Try.checked os 3 .any ((Rows.OpenSpec.upto Rows.gateMakesSpec).pre6 enc Try.prog Try.f3 Rows.gateMakesUptoRow.domain false) (((Rows.OpenSpec.upto Rows.gateMakesSpec).at F).post enc Try.prog Try.f3 false true false false) := by
  refine returnsInHanded_of_cond (C := Try.checked) (s := Rows.OpenSpec.upto Rows.gateMakesSpec) (k := Rows.uptoSmall) rfl own started (by kernel_rfl) Try.func3
    (OpenSpec.witness (enc := enc) (C := Try.checked) (s := Rows.OpenSpec.upto Rows.gateMakesSpec) (k := Rows.uptoSmall) rfl false ⟨#[], #[.agg #[.int .i64 0, .int .i64 0, .int .i64 0, .slice none 0 0], .int .i64 0], []⟩ 8 (by kernel_rfl) (by kernel_rfl) (by kernel_rfl)
      (x := ([.agg [.lit (.int .i64 0), .lit (.int .i64 0), .lit (.int .i64 0), .nil], .lit (.int .i64 0)], [], [])) (by kernel_rfl) rfl (by kernel_rfl)) ?_
  intro W base args ds gs before hval hW _ hk _
  exact makes_contract H enc W base args ds gs before hval hW hk

theorem makes_proved : Rows.GateMakesUptoSaid :=
  OpenClaim.holds_of_cond 3 Try.f3 rfl rfl rfl rfl rfl rfl rfl ⟨rfl, rfl, rfl, rfl, rfl⟩ rfl rfl rfl rfl rfl (by kernel_rfl) Try.func3 (by kernel_rfl)
    (of_decide_eq_true (by kernel_rfl)) (by unfold Func.isWrapper; first | (rw [if_pos (by decide +kernel)]; kernel_rfl) | (rw [if_neg (by decide +kernel)]; exact ⟨rfl, rfl⟩))
    (fun os started H enc _ F => makes_lifted os started H enc F)

end Go.Proofs.Ytpacnaeckbcpjaa
