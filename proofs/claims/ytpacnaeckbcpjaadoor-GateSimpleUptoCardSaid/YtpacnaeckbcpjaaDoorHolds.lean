/- The law's holds. -/
import Derived.Test.YtpacnaeckbcpjaaDoorLinValue
namespace Go.Proofs.YtpacnaeckbcpjaaDoor
open Go.RowKit Go.Chalk

set_option maxRecDepth 100000 in
set_option maxHeartbeats 1000000 in
theorem holds_any (ls : List Lin) (v : Value) (xs : List Bool) (u : Value) (w : World) (hok : ∀ s ∈ ls, LinOk s 65536) (hmax : ls.length ≤ 1000000) (hd : DAt w (· < w.heap.size) (.sl (ls.map Lin.toD)) [v]) (hx : DAt w (· < w.heap.size) (.sl (dbools xs)) [u]) :
    Calls Tryd.prog 9 #[v, u] w fun e w' => e = .returned (.bool (linsV ls xs)) ∧ Below w.heap.size w w' := by
  obtain ⟨a, b, o, cap, he, hsl, _, hcells⟩ := lins_open hd
  simp only [List.cons.injEq, and_true] at he
  subst he
  have HX := Lib.hid hx
  have HSL := Lib.hid hsl
  have HCL := Lib.hid hcells
  have HOK := Lib.hid hok
  clear hsl hcells hok hd hx
  go_enter Tryd.func9, Tryd.ntmps9
  go_wp2_with fail
  go_loopw [9, 6] (fun i _ wr => ∃ j : Nat, i = .int .i64 j ∧ j ≤ ls.length ∧ Hid (linsV (ls.take j) xs = true) ∧ Below w.heap.size w wr) (fun i _ _ => ls.length - (intOf i).toNat)
  case atStart => exact ⟨0, rfl, Nat.zero_le _, by simp [Hid, linsV], Below.refl _ _⟩
  case round =>
    obtain ⟨j, rfl, hj, HP, hb⟩ := hrel
    have hbs := hb.size
    by_cases hlt : j < ls.length
    · obtain ⟨rfl, g1⟩ := HSL.out (by omega)
      obtain ⟨a2, n2, k2, a3, n3, k3, z, f1, f2, f3, f4⟩ := HCL.out j hlt
      have e1 := (hb.cell (p := ⟨b, o + j * 3, none⟩) g1).trans f1
      have e2 := (hb.cell (p := ⟨b, o + j * 3 + 1, none⟩) g1).trans f2
      have e3 := (hb.cell (p := ⟨b, o + j * 3 + 2, none⟩) g1).trans f3
      have HDJ := Lib.hid ((DAt.below f4 hb).alloc (.cells #[.slice a2 n2 k2, .slice a3 n3 k3, .int .i64 z] 42))
      have HXJ := Lib.hid ((HX.out.below hb).alloc (.cells #[.slice a2 n2 k2, .slice a3 n3 k3, .int .i64 z] 42))
      have HLO := Lib.hid (HOK.out ls[j] (List.getElem_mem hlt))
      have HB := Lib.hid hb
      have hstep : linsV (ls.take (j + 1)) xs = linV ls[j] xs := by
        have := HP.out
        unfold linsV at this ⊢
        rw [List.take_succ_eq_append_getElem hlt, List.all_append, this]; simp
      have hfalse : linV ls[j] xs = false → linsV ls xs = false := fun h => by
        unfold linsV
        exact List.all_eq_false.2 ⟨ls[j], List.getElem_mem hlt, by simp [h]⟩
      have HST := Lib.hid (And.intro hstep hfalse)
      clear f1 f2 f3 f4 hb hstep hfalse
      go_wp2_with fail
      refine (linvalue_any ls[j] _ _ _ xs _ _ HLO.out HDJ.out HXJ.out).mono ?_
      rintro e w2 ⟨rfl, hb2⟩
      have HB2 := Lib.hid (HB.out.trans ((Below.ahead hb2 (by simp)).mono hbs))
      clear hb2
      have hST := HST.out
      generalize linV ls[j] xs = r at hST ⊢
      have HST2 := Lib.hid hST
      clear hST HST
      cases r
      · go_wp2_with fail
        go_ret
        exact ⟨ret_bool (HST2.out.2 (by first | rfl | trivial)).symm, HB2.out⟩
      · go_wp2_with fail
        exact ⟨⟨j + 1, by go_num, by omega, HST2.out.1, HB2.out⟩, by simp [intOf]; omega⟩
    · go_wp2_with fail
      go_ret
      have h0 := HP.out
      rw [List.take_of_length_le (by omega)] at h0
      exact ⟨ret_bool h0.symm, hb⟩

end Go.Proofs.YtpacnaeckbcpjaaDoor
