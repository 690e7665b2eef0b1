/- The law's v and live: the sanity check. -/
import Derived.Test.YtpacnaeckbcpjaaDoorGates
import Derived.Test.YtpacnaeckbcpjaaDoorSame
namespace Go.Chalk
open Go.RowKit
theorem DAt.alloc {w : World} {x : D} {cs : List Value} (h : DAt w (· < w.heap.size) x cs) (o : Obj) : DAt (w.alloc o) (· < (w.alloc o).heap.size) x cs :=
  DAt.mono (fun k hk => by simp; omega) _ _ (DAt.agree (fun k hk => Below.heap_alloc _ _ _ hk) _ _ h)
theorem DAt.below {w w' : World} {x : D} {cs : List Value} (h : DAt w (· < w.heap.size) x cs) (hb : Below w.heap.size w w') : DAt w' (· < w'.heap.size) x cs :=
  DAt.mono (fun _ hk => Nat.lt_of_lt_of_le hk hb.size) _ _ (DAt.agree (agree_of_below hb) _ _ h)
/-- A slice that was just written out. -/
theorem DAt.lit {w : World} {xs : List D} {cs : List Value} {e : TypeId} {n sz H : Nat} (h : DsAt w (· < w.heap.size) xs cs) (hn : xs.length = n) (hm : n ≤ maxLen) (hw : widths xs = n * sz) (hH : w.heap.size = H) :
    DAt (w.alloc (.cells cs.toArray e)) (· < (w.alloc (.cells cs.toArray e)).heap.size) (.sl xs) [.slice (some ⟨H, 0, none⟩) n n] := by
  subst hH
  have h2 := Own.lit (e := e) (sz := sz) hn hm (by rw [DsAt.length _ _ h, hw]) h (fun k hk => hk)
  exact h2.read (fun k hk => by simp; omega) (fun k hk => by simp at hk ⊢; omega) (by rw [hw, hn])
theorem Tr.at {w : World} {F : Nat → Prop} {kind v k : Int} {l : List Tr} {sv : Value} (h : DAt w F (.sl (l.map Tr.toD)) [sv]) (h1 : I64 kind) (h2 : I64 v) (h3 : I64 k) : DAt w F (Tr.mk kind v k l).toD [.int .i64 kind, .int .i64 v, .int .i64 k, sv] := by
  rw [Tr.toD, DAt, Tr.toDs_eq]
  rw [DsAt]; refine ⟨[.int .i64 kind], _, rfl, by rw [DAt]; exact ⟨rfl, WalkArith.wf_i64 h1⟩, ?_⟩
  rw [DsAt]; refine ⟨[.int .i64 v], _, rfl, by rw [DAt]; exact ⟨rfl, WalkArith.wf_i64 h2⟩, ?_⟩
  rw [DsAt]; refine ⟨[.int .i64 k], _, rfl, by rw [DAt]; exact ⟨rfl, WalkArith.wf_i64 h3⟩, ?_⟩
  rw [DsAt]; exact ⟨[sv], [], rfl, h, by rw [DsAt]⟩
theorem DAt.nil {w : World} {F : Nat → Prop} : DAt w F (.sl []) [.slice none 0 0] :=
  DAt.slice (xs := []) (b := 0) (o := 0) (a := none) (fun h => by simp at h) (Nat.le_refl _) (Nat.zero_le _) (by rw [RowAt]; trivial)
theorem DsAt.one_of {w : World} {F : Nat → Prop} {x : D} {cs : List Value} (h : DAt w F x cs) : DsAt w F [x] cs := by rw [DsAt]; exact ⟨cs, [], (List.append_nil _).symm, h, by rw [DsAt]⟩

def liveT : Tr := .mk 4 0 0 [.mk 2 1 0 [], .mk 3 0 0 [.mk 2 2 0 []]]
def liveL : List Lin := [⟨[2, 1, 1], [-3, 1, -2], 2⟩, ⟨[1, 1, 1], [3, -1, 2], 1⟩]
theorem live_3 : gatesF liveT 3 = (3, liveL, 4, 0) := by rfl
theorem live_2 : gatesF liveT 2 = (0, [], 0, 1) := by rfl
end Go.Chalk
namespace Go.Proofs.YtpacnaeckbcpjaaDoor
open Go.RowKit Go.Chalk

set_option maxRecDepth 100000 in
theorem v_any (n : Int) (w : World) : Calls Tryd.prog 11 #[.int .i64 n] w fun e w' => e = .returned (.agg #[.int .i64 2, .int .i64 n, .int .i64 0, .slice none 0 0]) ∧ Below w.heap.size w w' := by
  go_enter Tryd.func11, Tryd.ntmps11
  go_wp2_with fail
  refine bodyPost_ret (v := .agg #[.int .i64 2, .int .i64 n, .int .i64 0, .slice none 0 0]) (by simp [results, Tryd.results11, go_sem]) rfl ?_
  exact ⟨rfl, (Below.refl _ _).alloc (Nat.le_refl _) _⟩

/-- The tree of the check, written out. -/
theorem liveT_at {w : World} {e e' : TypeId} :
    DAt ((w.alloc (.cells #[.int .i64 2, .int .i64 2, .int .i64 0, .slice none 0 0] e)).alloc (.cells #[.int .i64 2, .int .i64 1, .int .i64 0, .slice none 0 0, .int .i64 3, .int .i64 0, .int .i64 0, .slice (some ⟨w.heap.size, 0, none⟩) 1 1] e'))
      (· < ((w.alloc (.cells #[.int .i64 2, .int .i64 2, .int .i64 0, .slice none 0 0] e)).alloc (.cells #[.int .i64 2, .int .i64 1, .int .i64 0, .slice none 0 0, .int .i64 3, .int .i64 0, .int .i64 0, .slice (some ⟨w.heap.size, 0, none⟩) 1 1] e')).heap.size)
      liveT.toD [.int .i64 4, .int .i64 0, .int .i64 0, .slice (some ⟨w.heap.size + 1, 0, none⟩) 2 2] := by
  have i0 : I64 0 := by unfold I64; omega
  have i1 : I64 1 := by unfold I64; omega
  have i2 : I64 2 := by unfold I64; omega
  have i3 : I64 3 := by unfold I64; omega
  have i4 : I64 4 := by unfold I64; omega
  have n1 : DAt w (· < w.heap.size) (Tr.mk 2 2 0 []).toD _ := Tr.at (l := []) DAt.nil i2 i2 i0
  have n2 := DAt.lit (e := e) (n := 1) (sz := 4) (xs := [Tr.mk 2 2 0 []].map Tr.toD) (DsAt.one_of n1) rfl (by decide) (by simp [widths, Tr.width]) rfl
  have n3 := Tr.at n2 i3 i0 i0
  have n4 : DAt (w.alloc (.cells #[.int .i64 2, .int .i64 2, .int .i64 0, .slice none 0 0] e)) (· < (w.alloc (.cells #[.int .i64 2, .int .i64 2, .int .i64 0, .slice none 0 0] e)).heap.size) (Tr.mk 2 1 0 []).toD _ := Tr.at (l := []) DAt.nil i2 i1 i0
  have n5 := DAt.lit (e := e') (n := 2) (sz := 4) (xs := [Tr.mk 2 1 0 [], .mk 3 0 0 [.mk 2 2 0 []]].map Tr.toD) (H := w.heap.size + 1) ((DsAt.one_of n4).append (DsAt.one_of n3)) rfl (by decide) (by simp [widths, Tr.width]) (by simp)
  exact Tr.at n5 i4 i0 i0

theorem liveL_at {w : World} {ei el : TypeId} :
    DAt (((((w.alloc (.cells #[.int .i64 2, .int .i64 1, .int .i64 1] ei)).alloc (.cells #[.int .i64 (-3), .int .i64 1, .int .i64 (-2)] ei)).alloc (.cells #[.int .i64 1, .int .i64 1, .int .i64 1] ei)).alloc (.cells #[.int .i64 3, .int .i64 (-1), .int .i64 2] ei)).alloc (.cells #[.slice (some ⟨w.heap.size, 0, none⟩) 3 3, .slice (some ⟨w.heap.size + 1, 0, none⟩) 3 3, .int .i64 2, .slice (some ⟨w.heap.size + 1 + 1, 0, none⟩) 3 3, .slice (some ⟨w.heap.size + 1 + 1 + 1, 0, none⟩) 3 3, .int .i64 1] el)) (· < (((((w.alloc (.cells #[.int .i64 2, .int .i64 1, .int .i64 1] ei)).alloc (.cells #[.int .i64 (-3), .int .i64 1, .int .i64 (-2)] ei)).alloc (.cells #[.int .i64 1, .int .i64 1, .int .i64 1] ei)).alloc (.cells #[.int .i64 3, .int .i64 (-1), .int .i64 2] ei)).alloc (.cells #[.slice (some ⟨w.heap.size, 0, none⟩) 3 3, .slice (some ⟨w.heap.size + 1, 0, none⟩) 3 3, .int .i64 2, .slice (some ⟨w.heap.size + 1 + 1, 0, none⟩) 3 3, .slice (some ⟨w.heap.size + 1 + 1 + 1, 0, none⟩) 3 3, .int .i64 1] el)).heap.size) (.sl (liveL.map Lin.toD)) [.slice (some ⟨w.heap.size + 1 + 1 + 1 + 1, 0, none⟩) 2 2] := by
  have ints : ∀ (u : World) (H : Nat) (xs : List Int), xs.length = 3 → AllI64 xs → u.heap.size = H → DAt (u.alloc (.cells (xs.map (Value.int .i64)).toArray ei)) (· < (u.alloc (.cells (xs.map (Value.int .i64)).toArray ei)).heap.size) (.sl (dints xs)) [.slice (some ⟨H, 0, none⟩) 3 3] :=
    fun u H xs h1 h2 h3 => DAt.lit (sz := 1) (DsAt.ints h2) (by simpa using h1) (by decide) (by rw [dints_widths, h1]) h3
  have a1 : AllI64 [2, 1, 1] := fun x hx => by simp at hx; omega
  have a2 : AllI64 [-3, 1, -2] := fun x hx => by simp at hx; omega
  have a3 : AllI64 [1, 1, 1] := fun x hx => by simp at hx; omega
  have a4 : AllI64 [3, -1, 2] := fun x hx => by simp at hx; omega
  have n1 := ((ints w w.heap.size [2, 1, 1] rfl a1 rfl).alloc (.cells #[.int .i64 (-3), .int .i64 1, .int .i64 (-2)] ei)).alloc (.cells #[.int .i64 1, .int .i64 1, .int .i64 1] ei) |>.alloc (.cells #[.int .i64 3, .int .i64 (-1), .int .i64 2] ei)
  have n2 := ((ints (w.alloc (.cells #[.int .i64 2, .int .i64 1, .int .i64 1] ei)) (w.heap.size + 1) [-3, 1, -2] rfl a2 (by simp)).alloc (.cells #[.int .i64 1, .int .i64 1, .int .i64 1] ei)).alloc (.cells #[.int .i64 3, .int .i64 (-1), .int .i64 2] ei)
  have n3 := (ints ((w.alloc (.cells #[.int .i64 2, .int .i64 1, .int .i64 1] ei)).alloc (.cells #[.int .i64 (-3), .int .i64 1, .int .i64 (-2)] ei)) (w.heap.size + 1 + 1) [1, 1, 1] rfl a3 (by simp)).alloc (.cells #[.int .i64 3, .int .i64 (-1), .int .i64 2] ei)
  have n4 := ints (((w.alloc (.cells #[.int .i64 2, .int .i64 1, .int .i64 1] ei)).alloc (.cells #[.int .i64 (-3), .int .i64 1, .int .i64 (-2)] ei)).alloc (.cells #[.int .i64 1, .int .i64 1, .int .i64 1] ei)) (w.heap.size + 1 + 1 + 1) [3, -1, 2] rfl a4 (by simp)
  exact DAt.lit (xs := liveL.map Lin.toD) (n := 2) (sz := 3) ((Lin.at n1 n2 (by omega)).append (Lin.at n3 n4 (by omega))) rfl (by decide) (by simp [liveL, widths, Lin.width]) (by simp)

set_option maxRecDepth 100000 in
set_option maxHeartbeats 1000000 in
theorem live_any (w : World) : Calls Tryd.prog 4 #[] w fun e w' => e = .returned (.bool true) ∧ Below w.heap.size w w' := by
  go_enter Tryd.func4, Tryd.ntmps4
  go_wp2_with fail
  refine (v_any 1 _).mono ?_
  rintro e w1 ⟨rfl, hb1⟩
  go_wp2_with fail
  refine (v_any 2 _).mono ?_
  rintro e w2 ⟨rfl, hb2⟩
  have HB2 := Lib.hid (hb1.trans (hb2.mono hb1.size))
  clear hb1 hb2
  have HT := Lib.hid (liveT_at (w := w2) (e := 24) (e' := 24))
  have hba : ∀ (u : World) (o1 o2 o3 : Obj), Below u.heap.size u (((u.alloc o1).alloc o2).alloc o3) := fun u o1 o2 o3 => (((Below.refl _ _).alloc (Nat.le_refl _) _).alloc (by simp) _).alloc (by simp; omega) _
  have hba5 : ∀ (u : World) (o1 o2 o3 o4 o5 : Obj), Below u.heap.size u (((((u.alloc o1).alloc o2).alloc o3).alloc o4).alloc o5) := fun u o1 o2 o3 o4 o5 => (((((Below.refl _ _).alloc (Nat.le_refl _) _).alloc (by simp) _).alloc (by simp; omega) _).alloc (by simp; omega) _).alloc (by simp; omega) _
  have HBA := Lib.hid hba
  have HBA5 := Lib.hid hba5
  clear hba hba5
  have HTA := Lib.hid (HT.out.alloc (.cells #[.int .i64 4, .int .i64 0, .int .i64 0, .slice (some ⟨w2.heap.size + 1, 0, none⟩) 2 2] 24))
  have HG3 := Lib.hid (gates_any liveT _ 3 _ (by decide) ⟨_, _, _, _, rfl, HTA.out⟩)
  rw [live_3] at HG3
  go_wp2_with fail
  refine HG3.out.mono ?_
  rintro e w3 ⟨v3, rfl, hN, hb3⟩
  have HN := Lib.hid hN
  obtain ⟨q0, q1, q2, q3⟩ := boxed4 hb3 (by simp)
  simp only [World.size_alloc] at q0 q1 q2 q3
  have HB3 := Lib.hid hb3
  have hsz3 : w2.heap.size + 1 + 1 < w3.heap.size := by have := hb3.size; simp at this; omega
  clear hN hb3 HG3
  have r0 := ((HBA5.out w3 (.cells #[.int .i64 2, .int .i64 1, .int .i64 1] 3) (.cells #[.int .i64 (-3), .int .i64 1, .int .i64 (-2)] 3) (.cells #[.int .i64 1, .int .i64 1, .int .i64 1] 3) (.cells #[.int .i64 3, .int .i64 (-1), .int .i64 2] 3) (.cells #[.slice (some ⟨w3.heap.size, 0, none⟩) 3 3, .slice (some ⟨w3.heap.size + 1, 0, none⟩) 3 3, .int .i64 2, .slice (some ⟨w3.heap.size + 1 + 1, 0, none⟩) 3 3, .slice (some ⟨w3.heap.size + 1 + 1 + 1, 0, none⟩) 3 3, .int .i64 1] 42)).cell (p := ⟨w2.heap.size + 1 + 1, 0, none⟩) hsz3).trans q0
  have r1 := ((HBA5.out w3 (.cells #[.int .i64 2, .int .i64 1, .int .i64 1] 3) (.cells #[.int .i64 (-3), .int .i64 1, .int .i64 (-2)] 3) (.cells #[.int .i64 1, .int .i64 1, .int .i64 1] 3) (.cells #[.int .i64 3, .int .i64 (-1), .int .i64 2] 3) (.cells #[.slice (some ⟨w3.heap.size, 0, none⟩) 3 3, .slice (some ⟨w3.heap.size + 1, 0, none⟩) 3 3, .int .i64 2, .slice (some ⟨w3.heap.size + 1 + 1, 0, none⟩) 3 3, .slice (some ⟨w3.heap.size + 1 + 1 + 1, 0, none⟩) 3 3, .int .i64 1] 42)).cell (p := ⟨w2.heap.size + 1 + 1, 1, none⟩) hsz3).trans q1
  have r2 := ((HBA5.out w3 (.cells #[.int .i64 2, .int .i64 1, .int .i64 1] 3) (.cells #[.int .i64 (-3), .int .i64 1, .int .i64 (-2)] 3) (.cells #[.int .i64 1, .int .i64 1, .int .i64 1] 3) (.cells #[.int .i64 3, .int .i64 (-1), .int .i64 2] 3) (.cells #[.slice (some ⟨w3.heap.size, 0, none⟩) 3 3, .slice (some ⟨w3.heap.size + 1, 0, none⟩) 3 3, .int .i64 2, .slice (some ⟨w3.heap.size + 1 + 1, 0, none⟩) 3 3, .slice (some ⟨w3.heap.size + 1 + 1 + 1, 0, none⟩) 3 3, .int .i64 1] 42)).cell (p := ⟨w2.heap.size + 1 + 1, 2, none⟩) hsz3).trans q2
  have r3 := ((HBA5.out w3 (.cells #[.int .i64 2, .int .i64 1, .int .i64 1] 3) (.cells #[.int .i64 (-3), .int .i64 1, .int .i64 (-2)] 3) (.cells #[.int .i64 1, .int .i64 1, .int .i64 1] 3) (.cells #[.int .i64 3, .int .i64 (-1), .int .i64 2] 3) (.cells #[.slice (some ⟨w3.heap.size, 0, none⟩) 3 3, .slice (some ⟨w3.heap.size + 1, 0, none⟩) 3 3, .int .i64 2, .slice (some ⟨w3.heap.size + 1 + 1, 0, none⟩) 3 3, .slice (some ⟨w3.heap.size + 1 + 1 + 1, 0, none⟩) 3 3, .int .i64 1] 42)).cell (p := ⟨w2.heap.size + 1 + 1, 3, none⟩) hsz3).trans q3
  have HL := Lib.hid (liveL_at (w := w3) (ei := 3) (el := 42))
  go_wp2_with fail
  have HG2 := Lib.hid (gates_any liveT _ 2 _ (by decide) ⟨_, _, _, _, rfl, (HTA.out.below HB3.out).below (HBA5.out _ (.cells #[.int .i64 2, .int .i64 1, .int .i64 1] 3) (.cells #[.int .i64 (-3), .int .i64 1, .int .i64 (-2)] 3) (.cells #[.int .i64 1, .int .i64 1, .int .i64 1] 3) (.cells #[.int .i64 3, .int .i64 (-1), .int .i64 2] 3) (.cells #[.slice (some ⟨w3.heap.size, 0, none⟩) 3 3, .slice (some ⟨w3.heap.size + 1, 0, none⟩) 3 3, .int .i64 2, .slice (some ⟨w3.heap.size + 1 + 1, 0, none⟩) 3 3, .slice (some ⟨w3.heap.size + 1 + 1 + 1, 0, none⟩) 3 3, .int .i64 1] 42))⟩)
  rw [live_2] at HG2
  refine HG2.out.mono ?_
  rintro e w4 ⟨v4, rfl, _, hb4⟩
  have HL4 := Lib.hid (HL.out.below hb4)
  have hb34 : Below w3.heap.size w3 w4 := (HBA5.out w3 _ _ _ _ _).trans (hb4.mono (by simp; omega))
  have HN4 : Hid (DAt w4 (· < w4.heap.size) (.sl (liveL.map Lin.toD)) [v3]) := DAt.below (DAt.mono (fun k hk => hk.2) _ _ HN.out) hb34
  have HB4 : Hid (Below w.heap.size w w4) := (HB2.out.trans ((HBA.out w2 _ _ _).mono HB2.out.size)).trans ((HB3.out.trans (hb34.mono HB3.out.size)).mono (by have := HB2.out.size; simp; omega))
  clear hb4 hb34 HG2 q0 q1 q2 q3 r0 r1 r2 r3
  go_wp2_with fail
  refine (sameall_eq liveL _ _ _ HN4.out HL4.out).mono ?_
  rintro e w5 ⟨rfl, hb5⟩
  have HB5 := Lib.hid hb5
  clear hb5
  go_wp2_with fail
  go_ret
  exact ⟨rfl, HB4.out.trans (HB5.out.mono HB4.out.size)⟩

end Go.Proofs.YtpacnaeckbcpjaaDoor
