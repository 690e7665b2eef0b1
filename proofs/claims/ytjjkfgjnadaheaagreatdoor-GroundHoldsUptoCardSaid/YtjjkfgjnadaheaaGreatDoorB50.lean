/- Joined texts: GLive, GHoldP, WGHold. -/
import Derived.Test.YtjjkfgjnadaheaaGreatDoorB49
import Derived.Test.YtjjkfgjnadaheaaGreatDoorB47
import Derived.Test.YtjjkfgjnadaheaaGreatDoorB09

/- The law's live. -/
namespace Go.Proofs.YtjjkfgjnadaheaaGreatDoor
open Go.RowKit Go.Chalk
def TreeE (w : World) (t : Tr) (e : Ending) (w' : World) : Prop := ∃ k0 k1 k2 a n cap, e = .returned (.tuple #[.agg #[.int .i64 k0, .int .i64 k1, .int .i64 k2, .slice a n cap], .int .i64 0]) /\ DAt w' (· < w'.heap.size) t.toD [.int .i64 k0, .int .i64 k1, .int .i64 k2, .slice a n cap] /\ Below w.heap.size w w'
theorem gr_tree (kind n : Int) (t : Tr) (x : SchA) (fa : FrmA) (z : SlA) (w : World) (hI : ItoaAt) (hg : GG w) (hff : FrmFit (grA kind n)) (ht : gTreeF grS grE (grA kind n) = (t, 0)) (hs : SchIn w (· < w.heap.size) grS x) (hx : FrmIn w (· < w.heap.size) (grA kind n) fa) (hz : SlIn w (· < w.heap.size) (grE.map Ev.toD) z) :
    Calls Tryz.prog 12 #[.agg (x.cells grS).toArray, .slice z.a 1 z.cap, ndV (grA kind n, fa)] w (TreeE w t) := by
  have h := gTree_any grS x (grA kind n) fa grE z w hI grS_fit hs hg hff (by decide) (by intro e he; simp only [grE, List.mem_singleton] at he; subst he; decide) hx hz
  rw [ht] at h
  refine h.mono ?_
  rintro e w' ⟨k0, k1, k2, a, m, cap, he, hd, hb⟩
  exact ⟨k0, k1, k2, a, m, cap, he, DAt.mono (fun _ k => k.2) _ _ hd, hb⟩

set_option maxRecDepth 100000 in
set_option maxHeartbeats 8000000 in
theorem live10_any (w : World) (hI : ItoaAt) (hg : GG w) :
    Calls Tryz.prog 10 #[] w fun e w' => e = .returned (.bool true) /\ Below w.heap.size w w' := by
  obtain ⟨W1, hW1⟩ : ∃ W1, W1 = w.alloc (.cells #[.string ⟨#[108]⟩, .int .i64 1, .int .i64 0] 76) := ⟨_, rfl⟩
  have hb1 : Below w.heap.size w W1 := by rw [hW1]; exact (Below.refl _ _).alloc (Nat.le_refl _) _
  have z1 : W1.heap.size = w.heap.size + 1 := by rw [hW1]; simp
  have s1 := SlIn.lit' (lo := 0) (w := w) (e := 76) (n := 1) (Nat.zero_le _) gr_env rfl (by decide)
  rw [<- hW1] at s1
  obtain ⟨W2, hW2⟩ : ∃ W2, W2 = W1.alloc (.cells #[.int .i64 2, .int .i64 1, .int .i64 0, .slice none 0 0, .int .i64 2, .int .i64 2, .int .i64 0, .slice none 0 0] 39) := ⟨_, rfl⟩
  have c2 : Below W1.heap.size W1 W2 := by rw [hW2]; exact (Below.refl _ _).alloc (Nat.le_refl _) _
  have hb2 : Below w.heap.size w W2 := by rw [hW2]; exact hb1.alloc (by omega) _
  have s2 := SlIn.lit' (lo := 0) (w := W1) (e := 39) (n := 2) (Nat.zero_le _) gr_vars rfl (by decide)
  rw [<- hW2, z1] at s2
  have HB2 := Lib.hid hb2
  have HE := Lib.hid (fun (W : World) (hW : Below W2.heap.size W2 W) => ((s1.laterB c2).laterB hW).mono (fun _ k => k.2))
  have HV := Lib.hid (fun (W : World) (hW : Below W2.heap.size W2 W) => (s2.laterB hW).mono (fun _ k => k.2))
  have HG := Lib.hid (fun (W : World) (hW : Below W2.heap.size W2 W) => hg.below (hb2.trans (hW.mono hb2.size)))
  rw [hW1] at hW2
  have HW := Lib.hid hW2
  have HT := Lib.hid (fun (W : World) => two10_any W 0 (Nat.zero_le _))
  have HI := Lib.hid hI
  clear hb1 z1 s1 c2 hb2 s2 hW2 hg hI hW1
  go_enter Tryz.func10, Tryz.ntmps10
  go_wp2_with fail
  rw [<- HW.out]
  refine (HT.out W2).mono ?_
  rintro e a1 ⟨x1, rfl, hx, hb⟩
  have A1 := Lib.hid (And.intro hx (And.intro (Below.trans (Below.refl W2.heap.size W2) (hb.mono (Below.refl W2.heap.size W2).size)) hb))
  clear hx hb
  simp only [SchA.cells, SlA.val]
  go_wp2_with fail
  refine (at10_any 15 0 a1 0 (Nat.zero_le _) (by unfold I64; omega) (by unfold I64; omega)).mono ?_
  rintro e b1 ⟨u1, rfl, hu, hb⟩
  have B1 := Lib.hid (And.intro hu (And.intro hb (Below.trans A1.out.2.1 (hb.mono A1.out.2.1.size))))
  clear hu hb
  have C1 := Lib.hid (gr_tree 15 0 (.mk 5 0 0 grV) x1 u1 ⟨some ⟨w.heap.size, 0, none⟩, w.heap.size, 0, 1⟩ b1 HI.out (HG.out _ B1.out.2.2) grA_fit.1 gr_some ((A1.out.1.mono (fun _ k => k.2)).later B1.out.2.1 B1.out.2.1.size) (B1.out.1.mono (fun _ k => k.2)) (HE.out _ B1.out.2.2))
  have e1 : ndV (grA 15 0, u1) = .agg #[.int .i64 15, .string ⟨#[]⟩, .int .i64 0, .slice u1.t.a 0 u1.t.cap, .slice u1.b.a 1 u1.b.cap, .slice u1.l.a 1 u1.l.cap] := rfl
  rw [e1] at C1 ⊢
  clear e1
  go_wp2_with fail
  refine C1.out.mono ?_
  rintro e c1 ⟨k10, k11, k12, ta1, tn1, tc1, rfl, hd, hb⟩
  have D1 := Lib.hid (And.intro hd (And.intro (Below.trans B1.out.2.2 (hb.mono B1.out.2.2.size)) hb))
  clear hd hb C1
  go_wp2_with fail
  obtain ⟨W3, hW⟩ : ∃ W', W' = c1.alloc (.cells #[.int .i64 k10, .int .i64 k11, .int .i64 k12, .slice ta1 tn1 tc1] 39) := ⟨_, rfl⟩
  rw [<- hW]
  have E1 : Hid (Below W2.heap.size W2 W3 /\ (∀ W, Below W3.heap.size W3 W -> W.heap[c1.heap.size]? = some (.cells #[.int .i64 k10, .int .i64 k11, .int .i64 k12, .slice ta1 tn1 tc1] 39 (0, 0)) /\ DAt W (· < W.heap.size) (Tr.toD (.mk 5 0 0 grV)) [.int .i64 k10, .int .i64 k11, .int .i64 k12, .slice ta1 tn1 tc1]) /\ Below W2.heap.size W2 W3) := Lib.hid (by
    have hba : Below c1.heap.size c1 W3 := by rw [hW]; exact (Below.refl _ _).alloc (Nat.le_refl _) _
    have s1 := A1.out.2.2
    have s2 := s1.trans (B1.out.2.1.mono s1.size)
    have s3 := s2.trans (D1.out.2.2.mono s2.size)
    refine ⟨D1.out.2.1.trans (hba.mono D1.out.2.1.size), fun W hb => ?_, s3.trans (hba.mono s3.size)⟩
    have h2 : Below c1.heap.size c1 W := hba.trans (hb.mono hba.size)
    refine ⟨(hb.block _ (by rw [hW]; simp)).trans (by rw [hW, heap_get, if_pos rfl]), DAt.mono (fun k (hk : k < c1.heap.size) => by have := h2.size; omega) _ _ (DAt.agree (agree_of_below h2) _ _ D1.out.1)⟩)
  clear hW
  refine (HT.out W3).mono ?_
  rintro e a2 ⟨x2, rfl, hx, hb⟩
  have A2 := Lib.hid (And.intro hx (And.intro (Below.trans E1.out.1 (hb.mono E1.out.1.size)) hb))
  clear hx hb
  simp only [SchA.cells, SlA.val]
  go_wp2_with fail
  refine (at10_any 14 0 a2 0 (Nat.zero_le _) (by unfold I64; omega) (by unfold I64; omega)).mono ?_
  rintro e b2 ⟨u2, rfl, hu, hb⟩
  have B2 := Lib.hid (And.intro hu (And.intro hb (Below.trans A2.out.2.1 (hb.mono A2.out.2.1.size))))
  clear hu hb
  have C2 := Lib.hid (gr_tree 14 0 (.mk 4 0 0 grV) x2 u2 ⟨some ⟨w.heap.size, 0, none⟩, w.heap.size, 0, 1⟩ b2 HI.out (HG.out _ B2.out.2.2) grA_fit.2.1 gr_all ((A2.out.1.mono (fun _ k => k.2)).later B2.out.2.1 B2.out.2.1.size) (B2.out.1.mono (fun _ k => k.2)) (HE.out _ B2.out.2.2))
  have e1 : ndV (grA 14 0, u2) = .agg #[.int .i64 14, .string ⟨#[]⟩, .int .i64 0, .slice u2.t.a 0 u2.t.cap, .slice u2.b.a 1 u2.b.cap, .slice u2.l.a 1 u2.l.cap] := rfl
  rw [e1] at C2 ⊢
  clear e1
  go_wp2_with fail
  refine C2.out.mono ?_
  rintro e c2 ⟨k20, k21, k22, ta2, tn2, tc2, rfl, hd, hb⟩
  have D2 := Lib.hid (And.intro hd (And.intro (Below.trans B2.out.2.2 (hb.mono B2.out.2.2.size)) hb))
  clear hd hb C2
  go_wp2_with fail
  obtain ⟨W4, hW⟩ : ∃ W', W' = c2.alloc (.cells #[.int .i64 k20, .int .i64 k21, .int .i64 k22, .slice ta2 tn2 tc2] 39) := ⟨_, rfl⟩
  rw [<- hW]
  have E2 : Hid (Below W2.heap.size W2 W4 /\ (∀ W, Below W4.heap.size W4 W -> W.heap[c2.heap.size]? = some (.cells #[.int .i64 k20, .int .i64 k21, .int .i64 k22, .slice ta2 tn2 tc2] 39 (0, 0)) /\ DAt W (· < W.heap.size) (Tr.toD (.mk 4 0 0 grV)) [.int .i64 k20, .int .i64 k21, .int .i64 k22, .slice ta2 tn2 tc2]) /\ Below W3.heap.size W3 W4) := Lib.hid (by
    have hba : Below c2.heap.size c2 W4 := by rw [hW]; exact (Below.refl _ _).alloc (Nat.le_refl _) _
    have s1 := A2.out.2.2
    have s2 := s1.trans (B2.out.2.1.mono s1.size)
    have s3 := s2.trans (D2.out.2.2.mono s2.size)
    refine ⟨D2.out.2.1.trans (hba.mono D2.out.2.1.size), fun W hb => ?_, s3.trans (hba.mono s3.size)⟩
    have h2 : Below c2.heap.size c2 W := hba.trans (hb.mono hba.size)
    refine ⟨(hb.block _ (by rw [hW]; simp)).trans (by rw [hW, heap_get, if_pos rfl]), DAt.mono (fun k (hk : k < c2.heap.size) => by have := h2.size; omega) _ _ (DAt.agree (agree_of_below h2) _ _ D2.out.1)⟩)
  clear hW
  refine (HT.out W4).mono ?_
  rintro e a3 ⟨x3, rfl, hx, hb⟩
  have A3 := Lib.hid (And.intro hx (And.intro (Below.trans E2.out.1 (hb.mono E2.out.1.size)) hb))
  clear hx hb
  simp only [SchA.cells, SlA.val]
  go_wp2_with fail
  refine (at10_any 17 1 a3 0 (Nat.zero_le _) (by unfold I64; omega) (by unfold I64; omega)).mono ?_
  rintro e b3 ⟨u3, rfl, hu, hb⟩
  have B3 := Lib.hid (And.intro hu (And.intro hb (Below.trans A3.out.2.1 (hb.mono A3.out.2.1.size))))
  clear hu hb
  have C3 := Lib.hid (gr_tree 17 1 (.mk 3 0 0 [.mk 6 0 2 grV]) x3 u3 ⟨some ⟨w.heap.size, 0, none⟩, w.heap.size, 0, 1⟩ b3 HI.out (HG.out _ B3.out.2.2) grA_fit.2.2 gr_most ((A3.out.1.mono (fun _ k => k.2)).later B3.out.2.1 B3.out.2.1.size) (B3.out.1.mono (fun _ k => k.2)) (HE.out _ B3.out.2.2))
  have e1 : ndV (grA 17 1, u3) = .agg #[.int .i64 17, .string ⟨#[]⟩, .int .i64 1, .slice u3.t.a 0 u3.t.cap, .slice u3.b.a 1 u3.b.cap, .slice u3.l.a 1 u3.l.cap] := rfl
  rw [e1] at C3 ⊢
  clear e1
  go_wp2_with fail
  refine C3.out.mono ?_
  rintro e c3 ⟨k30, k31, k32, ta3, tn3, tc3, rfl, hd, hb⟩
  have D3 := Lib.hid (And.intro hd (And.intro (Below.trans B3.out.2.2 (hb.mono B3.out.2.2.size)) hb))
  clear hd hb C3
  go_wp2_with fail
  obtain ⟨W5, hW⟩ : ∃ W', W' = c3.alloc (.cells #[.int .i64 k30, .int .i64 k31, .int .i64 k32, .slice ta3 tn3 tc3] 39) := ⟨_, rfl⟩
  rw [<- hW]
  have E3 : Hid (Below W2.heap.size W2 W5 /\ (∀ W, Below W5.heap.size W5 W -> W.heap[c3.heap.size]? = some (.cells #[.int .i64 k30, .int .i64 k31, .int .i64 k32, .slice ta3 tn3 tc3] 39 (0, 0)) /\ DAt W (· < W.heap.size) (Tr.toD (.mk 3 0 0 [.mk 6 0 2 grV])) [.int .i64 k30, .int .i64 k31, .int .i64 k32, .slice ta3 tn3 tc3]) /\ Below W4.heap.size W4 W5) := Lib.hid (by
    have hba : Below c3.heap.size c3 W5 := by rw [hW]; exact (Below.refl _ _).alloc (Nat.le_refl _) _
    have s1 := A3.out.2.2
    have s2 := s1.trans (B3.out.2.1.mono s1.size)
    have s3 := s2.trans (D3.out.2.2.mono s2.size)
    refine ⟨D3.out.2.1.trans (hba.mono D3.out.2.1.size), fun W hb => ?_, s3.trans (hba.mono s3.size)⟩
    have h2 : Below c3.heap.size c3 W := hba.trans (hb.mono hba.size)
    refine ⟨(hb.block _ (by rw [hW]; simp)).trans (by rw [hW, heap_get, if_pos rfl]), DAt.mono (fun k (hk : k < c3.heap.size) => by have := h2.size; omega) _ _ (DAt.agree (agree_of_below h2) _ _ D3.out.1)⟩)
  clear hW
  refine (HT.out W5).mono ?_
  rintro e a4 ⟨x4, rfl, hx, hb⟩
  have A4 := Lib.hid (And.intro hx (And.intro hb (Below.trans E3.out.1 (hb.mono E3.out.1.size))))
  clear hx hb
  have F4 := Lib.hid (gFrame_any grS x4 a4 HI.out grS_fit (HG.out _ A4.out.2.2) (A4.out.1.mono (fun _ k => k.2)))
  simp only [SchA.cells, SlA.val] at F4 ⊢
  go_wp2_with fail
  refine F4.out.mono ?_
  rintro e c4 ⟨u4, rfl, _, hb⟩
  have HF : Hid (∀ W, Below c4.heap.size c4 W -> Below w.heap.size w W /\ (W.heap[c1.heap.size]? = some (.cells #[.int .i64 k10, .int .i64 k11, .int .i64 k12, .slice ta1 tn1 tc1] 39 (0, 0)) /\ DAt W (· < W.heap.size) (Tr.toD (.mk 5 0 0 grV)) [.int .i64 k10, .int .i64 k11, .int .i64 k12, .slice ta1 tn1 tc1]) /\
      (W.heap[c2.heap.size]? = some (.cells #[.int .i64 k20, .int .i64 k21, .int .i64 k22, .slice ta2 tn2 tc2] 39 (0, 0)) /\ DAt W (· < W.heap.size) (Tr.toD (.mk 4 0 0 grV)) [.int .i64 k20, .int .i64 k21, .int .i64 k22, .slice ta2 tn2 tc2]) /\
      (W.heap[c3.heap.size]? = some (.cells #[.int .i64 k30, .int .i64 k31, .int .i64 k32, .slice ta3 tn3 tc3] 39 (0, 0)) /\ DAt W (· < W.heap.size) (Tr.toD (.mk 3 0 0 [.mk 6 0 2 grV])) [.int .i64 k30, .int .i64 k31, .int .i64 k32, .slice ta3 tn3 tc3]) /\
      SlIn W (· < W.heap.size) (grV.map Tr.toD) ⟨some ⟨w.heap.size + 1, 0, none⟩, w.heap.size + 1, 0, 2⟩) := Lib.hid (fun W hW => by
    have y5 := A4.out.2.1.trans (hb.mono A4.out.2.1.size)
    have x5 := y5.trans (hW.mono y5.size)
    have x4 := E3.out.2.2.trans (x5.mono E3.out.2.2.size)
    have x3 := E2.out.2.2.trans (x4.mono E2.out.2.2.size)
    have x2 := E1.out.2.2.trans (x3.mono E1.out.2.2.size)
    exact ⟨HB2.out.trans (x2.mono HB2.out.size), E1.out.2.1 W x3, E2.out.2.1 W x4, E3.out.2.1 W x5, HV.out W x2⟩)
  clear hb F4
  rw [gr_frame.1, gr_frame.2]
  go_upto_region 7 with fail
  obtain ⟨_, ⟨q1, d1⟩, ⟨q2, _⟩, ⟨q3, _⟩, hv⟩ := HF.out c4 (Below.refl _ _)
  have l1 := (Array.getElem?_eq_some_iff.1 q1).1
  have m0 : c4.cell? ⟨c1.heap.size, 0, none⟩ = some (.int .i64 k10) := cell_of_heap q1 rfl
  have m1 : c4.cell? ⟨c1.heap.size, 1, none⟩ = some (.int .i64 k11) := cell_of_heap q1 rfl
  have m2 : c4.cell? ⟨c1.heap.size, 2, none⟩ = some (.int .i64 k12) := cell_of_heap q1 rfl
  have m3 : c4.cell? ⟨c1.heap.size, 3, none⟩ = some (.slice ta1 tn1 tc1) := cell_of_heap q1 rfl
  have S1 := Lib.hid (gsame_any 10 (.mk 5 0 0 grV) _ [.int .i64 5, .int .i64 0, .int .i64 0, .slice (some ⟨w.heap.size + 1, 0, none⟩) 2 2] c4 (by decide) (by decide) d1 (Tr.close (u := ⟨some ⟨w.heap.size + 1, 0, none⟩, w.heap.size + 1, 0, 2⟩) (i64_small (by decide) (by decide)) (i64_small (by decide) (by decide)) (i64_small (by decide) (by decide)) hv))
  clear q1 q2 q3 d1 hv
  go_wp2_with fail
  refine S1.out.mono ?_
  rintro e w5 ⟨rfl, hb5⟩
  have G5 := Lib.hid hb5
  clear hb5 m0 m1 m2 m3 l1 S1
  obtain ⟨_, _, ⟨q2, d2⟩, _, hv⟩ := HF.out w5 G5.out
  have l2 := (Array.getElem?_eq_some_iff.1 q2).1
  have m0 : w5.cell? ⟨c2.heap.size, 0, none⟩ = some (.int .i64 k20) := cell_of_heap q2 rfl
  have m1 : w5.cell? ⟨c2.heap.size, 1, none⟩ = some (.int .i64 k21) := cell_of_heap q2 rfl
  have m2 : w5.cell? ⟨c2.heap.size, 2, none⟩ = some (.int .i64 k22) := cell_of_heap q2 rfl
  have m3 : w5.cell? ⟨c2.heap.size, 3, none⟩ = some (.slice ta2 tn2 tc2) := cell_of_heap q2 rfl
  have S2 := Lib.hid (gsame_any 10 (.mk 4 0 0 grV) _ [.int .i64 4, .int .i64 0, .int .i64 0, .slice (some ⟨w.heap.size + 1, 0, none⟩) 2 2] w5 (by decide) (by decide) d2 (Tr.close (u := ⟨some ⟨w.heap.size + 1, 0, none⟩, w.heap.size + 1, 0, 2⟩) (i64_small (by decide) (by decide)) (i64_small (by decide) (by decide)) (i64_small (by decide) (by decide)) hv))
  clear q2 d2 hv
  go_wp2_with fail
  refine S2.out.mono ?_
  rintro e w6 ⟨rfl, hb6⟩
  have G6 := Lib.hid (G5.out.trans (hb6.mono G5.out.size))
  clear hb6 m0 m1 m2 m3 l2 S2
  obtain ⟨_, _, _, ⟨q3, d3⟩, hv⟩ := HF.out w6 G6.out
  have l3 := (Array.getElem?_eq_some_iff.1 q3).1
  have m0 : w6.cell? ⟨c3.heap.size, 0, none⟩ = some (.int .i64 k30) := cell_of_heap q3 rfl
  have m1 : w6.cell? ⟨c3.heap.size, 1, none⟩ = some (.int .i64 k31) := cell_of_heap q3 rfl
  have m2 : w6.cell? ⟨c3.heap.size, 2, none⟩ = some (.int .i64 k32) := cell_of_heap q3 rfl
  have m3 : w6.cell? ⟨c3.heap.size, 3, none⟩ = some (.slice ta3 tn3 tc3) := cell_of_heap q3 rfl
  have S3 : Hid (Calls Tryz.prog 14 #[.agg #[.int .i64 k30, .int .i64 k31, .int .i64 k32, .slice ta3 tn3 tc3], .agg #[.int .i64 3, .int .i64 0, .int .i64 0, .slice (some ⟨w6.heap.size, 0, none⟩) 1 1]] (w6.alloc (.cells #[.int .i64 6, .int .i64 0, .int .i64 2, .slice (some ⟨w.heap.size + 1, 0, none⟩) 2 2] 39)) fun e w' => e = .returned (.bool true) /\ Below c4.heap.size c4 w') := Lib.hid (by
    have hd : DAt w6 (· < w6.heap.size) (Tr.toD (.mk 6 0 2 grV)) [.int .i64 6, .int .i64 0, .int .i64 2, .slice (some ⟨w.heap.size + 1, 0, none⟩) 2 2] := Tr.close (u := ⟨some ⟨w.heap.size + 1, 0, none⟩, w.heap.size + 1, 0, 2⟩) (i64_small (by decide) (by decide)) (i64_small (by decide) (by decide)) (i64_small (by decide) (by decide)) hv
    have hsl := SlIn.lit' (lo := 0) (w := w6) (e := 39) (n := 1) (Nat.zero_le _) (DsAt.one_of' (DAt.mono (fun k (hk : k < w6.heap.size) => (⟨Nat.zero_le _, hk⟩ : Fr 0 w6 k)) _ _ hd)) rfl (by decide)
    have hba : Below w6.heap.size w6 (w6.alloc (.cells #[.int .i64 6, .int .i64 0, .int .i64 2, .slice (some ⟨w.heap.size + 1, 0, none⟩) 2 2] 39)) := (Below.refl _ _).alloc (Nat.le_refl _) _
    have h1 := DAt.mono (fun k (hk : k < w6.heap.size) => Nat.lt_of_lt_of_le hk hba.size) _ _ (DAt.agree (agree_of_below hba) _ _ d3)
    have h2 := gsame_any 10 (.mk 3 0 0 [.mk 6 0 2 grV]) _ [.int .i64 3, .int .i64 0, .int .i64 0, .slice (some ⟨w6.heap.size, 0, none⟩) 1 1] _ (by decide) (by decide) h1 (Tr.close (u := ⟨some ⟨w6.heap.size, 0, none⟩, w6.heap.size, 0, 1⟩) (i64_small (by decide) (by decide)) (i64_small (by decide) (by decide)) (i64_small (by decide) (by decide)) (hsl.mono (fun _ k => k.2)))
    refine h2.mono ?_
    rintro e w' ⟨he, hb⟩
    have h3 := G6.out.trans (hba.mono G6.out.size)
    exact ⟨he, h3.trans (hb.mono h3.size)⟩)
  clear q3 d3 hv
  go_wp2_with fail
  refine S3.out.mono ?_
  rintro e w7 ⟨rfl, hb7⟩
  have G7 := Lib.hid hb7
  clear hb7 m0 m1 m2 m3 l3 S3
  go_wp2_with fail
  go_ret
  exact ⟨rfl, (HF.out w7 G7.out).1⟩
end Go.Proofs.YtjjkfgjnadaheaaGreatDoor
/- GroundHolds: the plain law. -/
namespace Go.Chalk
open Go.RowKit
theorem ghold_plain (s : Schl) (l : List Plc) (env : List Ev) (f : Frm) :
    ((gTreeF s env f).2 ≠ 0 -> (gTreeF s env f).1 = zeroTr) /\ ((gTreeF s env f).2 = 0 -> (gTreeF s env f).1.size <= 65536 /\ ((wkTrueF s l).2 = 0 -> evHolds s l env f = (valG (gTreeF s env f).1 (wkTrueF s l).1, 0))) := by
  by_cases h1 : (evHolds s (firstW s) env f).2 = 0
  · by_cases h2 : (gtF s env f).size <= 65536
    · have e : gTreeF s env f = (gtF s env f, 0) := by unfold gTreeF; rw [if_neg (by simpa using h1), if_pos h2]
      rw [e]
      refine ⟨fun h => absurd rfl h, fun _ => ⟨h2, fun h3 => ?_⟩⟩
      have h4 : weekCheck s l = 0 := by
        unfold wkTrueF at h3
        split at h3
        · rename_i h; exact absurd h3 h
        · rename_i h; exact Classical.byContradiction h
      have e2 : wkTrueF s l = (trueK s l l.length, 0) := by unfold wkTrueF; rw [if_neg (by simpa using h4)]
      have ho := evHolds_ok.1 h1
      have ho2 := ho.week_swap h4
      rw [e2, evHolds_val ho2, gt_val s l _ (trueW_true h4) ho.week f.size f env (Nat.le_refl _) ho2]
    · have e : gTreeF s env f = (zeroTr, 2) := by unfold gTreeF; rw [if_neg (by simpa using h1), if_neg h2]
      rw [e]
      exact ⟨fun _ => rfl, fun h => absurd h (by decide)⟩
  · have e : gTreeF s env f = (zeroTr, (evHolds s (firstW s) env f).2) := by unfold gTreeF; rw [if_pos h1]
    rw [e]
    exact ⟨fun _ => rfl, fun h => absurd h h1⟩
end Go.Chalk
/- GroundHolds: where the listed variables hold what their text lays, the law returns true. -/
namespace Go.Proofs.YtjjkfgjnadaheaaGreatDoor
open Go.RowKit Go.Chalk
theorem wkTrueF_len (s : Schl) (l : List Plc) : (wkTrueF s l).1.length <= 2000000 := by
  unfold wkTrueF
  split
  · simp
  · rename_i h
    have h0 : weekCheck s l = 0 := Classical.byContradiction h
    have hs : schCheck s = 0 := by
      unfold weekCheck at h0
      split at h0
      · rename_i h1; exact absurd h0 h1
      · rename_i h1; exact Classical.byContradiction h1
    show (trueK s l l.length).length <= _
    rw [trueK_len]; have := vars_small hs; omega

set_option maxRecDepth 100000 in
set_option maxHeartbeats 16000000 in
theorem ghold_walk (s : Schl) (x : SchA) (l : List Plc) (y : SlA) (env : List Ev) (z : SlA) (f : Frm) (fa : FrmA) (w : World) (hI : ItoaAt) (hf : SchFit s) (hff : FrmFit f) (hg : GG w) (hs : SchIn w (· < w.heap.size) s x) (hy : SlIn w (· < w.heap.size) (l.map Plc.toD) y) (hl : l.length <= 2000000)
    (hz : SlIn w (· < w.heap.size) (env.map Ev.toD) z) (hel : env.length <= 1200000) (hmax : ∀ e ∈ env, e.name.length <= 4000000) (hx : FrmIn w (· < w.heap.size) f fa) :
    Calls Tryz.prog 5 #[.agg (x.cells s).toArray, .slice z.a env.length z.cap, ndV (f, fa), .agg #[.slice y.a l.length y.cap]] w fun e w' => e = .returned (.bool true) /\ Below w.heap.size w w' := by
  have HLV := Lib.hid (fun (W : World) (hW : Below w.heap.size w W) => live10_any W hI (hg.below hW))
  have HFW := Lib.hid (fun (W : World) (hW : Below w.heap.size w W) => few10_any s x env z f fa W (hs.later hW hW.size) hf.toSchSmall.lessons hff.size (hx.later hW hW.size))
  have HTR := Lib.hid (fun (W : World) (hW : Below w.heap.size w W) => gTree_any s x f fa env z W hI hf (hs.later hW hW.size) (hg.below hW) hff hel hmax (hx.later hW hW.size) (hz.later hW hW.size))
  have HWT := Lib.hid (fun (W : World) (hW : Below w.heap.size w W) => wtrue_any s x l y W hI hf (hg.below hW) (hs.later hW hW.size) (hy.later hW hW.size) hl)
  have HHD := Lib.hid (fun (W : World) (hW : Below w.heap.size w W) => eholds_any s x l y env z f fa W hI hf hff (hg.below hW) (hs.later hW hW.size) (hy.later hW hW.size) hl (hz.later hW hW.size) (by omega) hmax (hx.later hW hW.size))
  have HPL := Lib.hid (ghold_plain s l env f)
  have HTL := Lib.hid (wkTrueF_len s l)
  obtain ⟨W0, hW0⟩ : ∃ W0, W0 = ((w.alloc (.cells (x.cells s).toArray 28)).alloc (.cells (fa.cells f).toArray 34)).alloc (.cells #[.slice y.a l.length y.cap] 50) := ⟨_, rfl⟩
  have hb0 : Below w.heap.size w W0 := by rw [hW0]; exact (((Below.refl _ _).alloc (Nat.le_refl _) _).alloc (by simp) _).alloc (by simp; omega) _
  have hs0 : SchBox W0 w.heap.size s x := by rw [hW0]; unfold SchBox; rw [heap_get, if_neg (by first | (simp; done) | (simp; omega)), heap_get, if_neg (by first | (simp; done) | (simp; omega)), heap_get, if_pos rfl]
  have hf0 : FrmBox W0 (w.heap.size + 1) f fa := by rw [hW0]; unfold FrmBox; rw [heap_get, if_neg (by first | (simp; done) | (simp; omega)), heap_get, if_pos (by simp)]
  have hk0 : W0.heap[w.heap.size + 1 + 1]? = some (.cells #[.slice y.a l.length y.cap] 50 (0, 0)) := by rw [hW0, heap_get, if_pos (by simp)]
  have HE : Hid (∀ W, Below W0.heap.size W0 W -> Below w.heap.size w W /\ (W.cell? ⟨w.heap.size, 0, none⟩ = some (.slice x.slots.a s.slots.length x.slots.cap) /\ W.cell? ⟨w.heap.size, 1, none⟩ = some (.slice x.rooms.a s.rooms.length x.rooms.cap) /\ W.cell? ⟨w.heap.size, 2, none⟩ = some (.slice x.people.a s.people.length x.people.cap) /\ W.cell? ⟨w.heap.size, 3, none⟩ = some (.slice x.groups.a s.groups.length x.groups.cap) /\ W.cell? ⟨w.heap.size, 4, none⟩ = some (.slice x.lessons.a s.lessons.length x.lessons.cap)) /\
      (W.cell? ⟨w.heap.size + 1, 0, none⟩ = some (.int .i64 f.kind) /\ W.cell? ⟨w.heap.size + 1, 1, none⟩ = some (.string ⟨f.name.toArray⟩) /\ W.cell? ⟨w.heap.size + 1, 2, none⟩ = some (.int .i64 f.n) /\ W.cell? ⟨w.heap.size + 1, 3, none⟩ = some (.slice fa.t.a f.terms.length fa.t.cap) /\ W.cell? ⟨w.heap.size + 1, 4, none⟩ = some (.slice fa.b.a f.binds.length fa.b.cap) /\ W.cell? ⟨w.heap.size + 1, 5, none⟩ = some (.slice fa.l.a f.l.length fa.l.cap)) /\
      W.cell? ⟨w.heap.size + 1 + 1, 0, none⟩ = some (.slice y.a l.length y.cap)) := Lib.hid (fun W hW =>
    ⟨hb0.trans (hW.mono hb0.size), (hs0.below hW).cells, (hf0.below hW).cells, cell_of_heap ((hW.block _ (Array.getElem?_eq_some_iff.1 hk0).1).trans hk0) rfl⟩)
  have HB0 := Lib.hid hb0
  have HW0 := Lib.hid hW0
  clear hb0 hs0 hf0 hk0 hW0 hI hf hff hg hs hy hl hz hel hmax hx
  generalize gTreeF s env f = T at HTR HPL
  generalize wkTrueF s l = A at HWT HPL HTL
  generalize evHolds s l env f = H at HHD HPL
  obtain ⟨t, ec⟩ := T
  obtain ⟨a, gc⟩ := A
  obtain ⟨hv, hc⟩ := H
  simp only at HPL HTL HHD
  simp only [ndV, SchA.cells, FrmA.cells, SlA.val] at HFW HTR HWT HHD HW0 HE ⊢
  go_enter Tryz.func5, Tryz.ntmps5
  go_wp2_with fail
  rw [<- HW0.out]
  refine (HLV.out _ HB0.out).mono ?_
  rintro e w1 ⟨rfl, hb1⟩
  have H1 := Lib.hid hb1
  clear hb1
  obtain ⟨_, ⟨c0, c1, c2, c3, c4⟩, ⟨f0, f1, f2, f3, f4, f5⟩, d0⟩ := HE.out w1 H1.out
  go_wp2_with fail
  refine (HFW.out _ (HE.out _ H1.out).1).mono ?_
  rintro e w2 ⟨⟨b2, rfl⟩, hb2⟩
  have H2 := Lib.hid (H1.out.trans (hb2.mono H1.out.size))
  clear hb2 c0 c1 c2 c3 c4 f0 f1 f2 f3 f4 f5 d0
  cases b2
  · go_wp2_with fail
    go_ret
    exact ⟨rfl, (HE.out _ H2.out).1⟩
  obtain ⟨_, ⟨c0, c1, c2, c3, c4⟩, ⟨f0, f1, f2, f3, f4, f5⟩, d0⟩ := HE.out w2 H2.out
  by_cases p1 : (10 : Int) < (l.length : Int)
  · go_wp2_with fail
    go_ret
    exact ⟨rfl, (HE.out _ H2.out).1⟩
  have p1' : decide ((10 : Int) < (l.length : Int)) = false := decide_eq_false p1
  clear p1
  go_wp2_with fail
  refine (HTR.out _ (HE.out _ H2.out).1).mono ?_
  rintro e w3 ⟨k0, k1, k2, ta, tn, tc, rfl, hd, hb3⟩
  have H3 := Lib.hid (And.intro (DAt.mono (fun _ k => k.2) _ _ hd : DAt w3 (fun k => k < w3.heap.size) t.toD _) (H2.out.trans (hb3.mono H2.out.size)))
  clear hd hb3 c0 c1 c2 c3 c4 f0 f1 f2 f3 f4 f5 d0 p1'
  simp only
  go_upto_region 6 with fail
  obtain ⟨w4, hW4⟩ : ∃ w4, w4 = w3.alloc (.cells #[.int .i64 k0, .int .i64 k1, .int .i64 k2, .slice ta tn tc] 39) := ⟨_, rfl⟩
  rw [<- hW4]
  have H4 : Hid (Below W0.heap.size W0 w4 /\ ∀ W, Below w4.heap.size w4 W -> W.heap[w3.heap.size]? = some (.cells #[.int .i64 k0, .int .i64 k1, .int .i64 k2, .slice ta tn tc] 39 (0, 0)) /\ DAt W (· < W.heap.size) t.toD [.int .i64 k0, .int .i64 k1, .int .i64 k2, .slice ta tn tc]) := Lib.hid (by
    have hba : Below w3.heap.size w3 w4 := by rw [hW4]; exact (Below.refl _ _).alloc (Nat.le_refl _) _
    refine ⟨H3.out.2.trans (hba.mono H3.out.2.size), fun W hb => ?_⟩
    have h2 : Below w3.heap.size w3 W := hba.trans (hb.mono hba.size)
    refine ⟨(hb.block _ (by rw [hW4]; simp)).trans (by rw [hW4, heap_get, if_pos rfl]), DAt.mono (fun k (hk : k < w3.heap.size) => by have := h2.size; omega) _ _ (DAt.agree (agree_of_below h2) _ _ H3.out.1)⟩)
  clear hW4
  obtain ⟨_, ⟨c0, c1, c2, c3, c4⟩, _, d0⟩ := HE.out w4 H4.out.1
  go_wp2_with fail
  refine (HWT.out _ (HE.out _ H4.out.1).1).mono ?_
  rintro e w5 ⟨u, rfl, hu, hb5⟩
  have H5 := Lib.hid (And.intro (hu.mono (fun _ k => k.2) : SlIn w5 (fun k => k < w5.heap.size) (dbools a) u) (And.intro hb5 (H4.out.1.trans (hb5.mono H4.out.1.size))))
  clear hu hb5 c0 c1 c2 c3 c4 d0
  simp only
  by_cases hec : ec = 0
  · subst hec
    by_cases hgc : gc = 0
    · subst hgc
      have hpv := (HPL.out.2 rfl).2 rfl
      have HSZ := Lib.hid (HPL.out.2 rfl).1
      simp only [Prod.mk.injEq] at hpv
      obtain ⟨rfl, rfl⟩ := hpv
      obtain ⟨_, ⟨c0, c1, c2, c3, c4⟩, ⟨f0, f1, f2, f3, f4, f5⟩, d0⟩ := HE.out w5 H5.out.2.2
      go_wp2_with fail
      refine (HHD.out _ (HE.out _ H5.out.2.2).1).mono ?_
      rintro e w6 ⟨rfl, hb6⟩
      have H6 := Lib.hid (And.intro hb6 (H5.out.2.2.trans (hb6.mono H5.out.2.2.size)))
      clear hb6 c0 c1 c2 c3 c4 f0 f1 f2 f3 f4 f5 d0
      obtain ⟨q1, d1⟩ := H4.out.2 w6 (H5.out.2.1.trans (H6.out.1.mono H5.out.2.1.size))
      have l1 := (Array.getElem?_eq_some_iff.1 q1).1
      have m0 : w6.cell? ⟨w3.heap.size, 0, none⟩ = some (.int .i64 k0) := cell_of_heap q1 rfl
      have m1 : w6.cell? ⟨w3.heap.size, 1, none⟩ = some (.int .i64 k1) := cell_of_heap q1 rfl
      have m2 : w6.cell? ⟨w3.heap.size, 2, none⟩ = some (.int .i64 k2) := cell_of_heap q1 rfl
      have m3 : w6.cell? ⟨w3.heap.size, 3, none⟩ = some (.slice ta tn tc) := cell_of_heap q1 rfl
      have HVL := Lib.hid (gval_any a u t.size t _ w6 (Nat.le_refl _) (by have := HSZ.out; omega) HTL.out d1 (H5.out.1.later H6.out.1 H6.out.1.size))
      clear q1 d1
      generalize valG t a = vv at HVL ⊢
      simp only
      go_wp2_with fail
      refine HVL.out.mono ?_
      rintro e w7 ⟨rfl, hb7⟩
      have H7 := Lib.hid (H6.out.2.trans (hb7.mono H6.out.2.size))
      clear hb7 m0 m1 m2 m3 l1
      cases vv
      · go_wp2_with fail
        go_ret
        exact ⟨rfl, (HE.out _ H7.out).1⟩
      · go_wp2_with fail
        go_ret
        exact ⟨rfl, (HE.out _ H7.out).1⟩
    · have z1 : (gc != 0) = true := by simpa using hgc
      clear hgc
      go_wp2_with fail
      go_ret
      exact ⟨rfl, (HE.out _ H5.out.2.2).1⟩
  · have z1 : (ec != 0) = true := by simpa using hec
    have z2 : (ec == 0) = false := by simpa using hec
    have hzt := HPL.out.1 hec
    subst hzt
    obtain ⟨q1, d1⟩ := H4.out.2 w5 H5.out.2.1
    have l1 := (Array.getElem?_eq_some_iff.1 q1).1
    have m0 : w5.cell? ⟨w3.heap.size, 0, none⟩ = some (.int .i64 k0) := cell_of_heap q1 rfl
    have m1 : w5.cell? ⟨w3.heap.size, 1, none⟩ = some (.int .i64 k1) := cell_of_heap q1 rfl
    have m2 : w5.cell? ⟨w3.heap.size, 2, none⟩ = some (.int .i64 k2) := cell_of_heap q1 rfl
    have m3 : w5.cell? ⟨w3.heap.size, 3, none⟩ = some (.slice ta tn tc) := cell_of_heap q1 rfl
    have HSM := Lib.hid (gsame_any 10 zeroTr _ _ w5 (by decide) (by decide) d1 zeroTr_at)
    clear q1 d1 hec
    go_wp2_with fail
    refine HSM.out.mono ?_
    rintro e w6 ⟨rfl, hb6⟩
    have H6 := Lib.hid (H5.out.2.2.trans (hb6.mono H5.out.2.2.size))
    clear hb6 m0 m1 m2 m3 l1
    go_wp2_with fail
    go_ret
    exact ⟨rfl, (HE.out _ H6.out).1⟩
end Go.Proofs.YtjjkfgjnadaheaaGreatDoor
