/- The reference's Gates. -/
import Derived.Test.YtpacnaeckbcpjaaLitRef
import Derived.Test.YtpacnaeckbcpjaaFlatRef
import Derived.Test.YtpacnaeckbcpjaaMay
import Derived.Deep.QuietTactic
import Derived.BigQuiet
namespace Go.Proofs.Ytpacnaeckbcpjaa
open Go.RowKit Go.Chalk

/-- Four results: a number, a slice of constraints in new memory, a number, an error. -/
def GatesPost (w : World) (r : Int × List Lin × Int × Int) (e : Ending) (w' : World) : Prop :=
  ∃ v, e = .returned (.tuple #[.int .i64 r.1, v, .int .i64 r.2.2.1, .int .i64 r.2.2.2]) ∧ NewAt w w' (.sl (r.2.1.map Lin.toD)) [v] ∧ Below w.heap.size w w'
theorem newAt_nil (w w' : World) : NewAt w w' (.sl (([] : List Lin).map Lin.toD)) [.slice none 0 0] :=
  DAt.slice (xs := []) (b := 0) (o := 0) (a := none) (fun h => by simp at h) (Nat.le_refl _) (Nat.zero_le _) (by rw [RowAt]; trivial)
theorem GatesPost.err {w w' : World} {e : Int} (hb : Below w.heap.size w w') : GatesPost w (0, [], 0, e) (.returned (.tuple #[.int .i64 0, .slice none 0 0, .int .i64 0, .int .i64 e])) w' :=
  ⟨_, rfl, newAt_nil w w', hb⟩

theorem gatesF_arg {t : Tr} {next : Int} (h : next < 1 ∨ 65537 < next) : gatesF t next = (0, [], 0, 1) := by unfold gatesF; rw [if_pos h]
theorem gatesF_check {t : Tr} {next : Int} (h : ¬ (next < 1 ∨ 65537 < next)) (hc : checkE t (next - 1) ≠ 0) : gatesF t next = (0, [], 0, checkE t (next - 1)) := by unfold gatesF; rw [if_neg h, if_pos hc]
theorem gatesF_wide {t : Tr} {next : Int} (h : ¬ (next < 1 ∨ 65537 < next)) (hc : checkE t (next - 1) = 0) (hw : wideB t = true) : gatesF t next = (0, [], 0, 2) := by unfold gatesF; rw [if_neg h, if_neg (by simp [hc]), if_pos hw]
theorem gatesF_bound {t : Tr} {next : Int} (h : ¬ (next < 1 ∨ 65537 < next)) (hc : checkE t (next - 1) = 0) (hw : wideB t = false) (hb : 65537 < (litF t next).2.2) : gatesF t next = (0, [], 0, 2) := by unfold gatesF; rw [if_neg h, if_neg (by simp [hc]), if_neg (by simp [hw]), if_pos hb]
theorem gatesF_ok {t : Tr} {next : Int} (h : ¬ (next < 1 ∨ 65537 < next)) (hc : checkE t (next - 1) = 0) (hw : wideB t = false) (hb : ¬ 65537 < (litF t next).2.2) : gatesF t next = ((litF t next).1, (litF t next).2.1, (litF t next).2.2, 0) := by unfold gatesF; rw [if_neg h, if_neg (by simp [hc]), if_neg (by simp [hw]), if_neg hb]

set_option maxRecDepth 100000 in
set_option maxHeartbeats 400000 in
theorem gates_ref_arg (t : Tr) (x : Value) (next : Int) (w : World) (ht : TreeV w (· < w.heap.size) t x) (h0 : next < 1 ∨ 65537 < next) :
    Calls Try.prog 13 #[x, .int .i64 next] w (GatesPost w (0, [], 0, 1)) := by
  obtain ⟨c0, c1, c2, c3, rfl, h⟩ := ht
  obtain ⟨k0, k1, k2, a1, n1, cap1, rfl, rfl, rfl, rfl⟩ := TreeV.shape h
  clear h
  rcases h0 with h0 | h0
  · go_enter Try.func13, Try.ntmps13
    go_wp2_with fail
    refine bodyPost_ret (v := .tuple #[.int .i64 0, .slice none 0 0, .int .i64 0, .int .i64 1]) (by simp [results, Try.results13, go_sem]) rfl ?_
    exact GatesPost.err ((Below.refl _ _).alloc (Nat.le_refl _) _)
  · have h0' : decide (next < 1) = false := by simp; omega
    go_enter Try.func13, Try.ntmps13
    go_wp2_with fail
    refine bodyPost_ret (v := .tuple #[.int .i64 0, .slice none 0 0, .int .i64 0, .int .i64 1]) (by simp [results, Try.results13, go_sem]) rfl ?_
    exact GatesPost.err ((Below.refl _ _).alloc (Nat.le_refl _) _)

set_option maxRecDepth 100000 in
set_option maxHeartbeats 400000 in
theorem gates_ref_check (t : Tr) (x : Value) (next : Int) (w : World) (hs : t.size ≤ 2000000) (ht : TreeV w (· < w.heap.size) t x) (h1 : 1 ≤ next) (h2 : next ≤ 65537) (ce : Int) (hce : checkE t (next - 1) = ce) (hz : ce ≠ 0) :
    Calls Try.prog 13 #[x, .int .i64 next] w (GatesPost w (0, [], 0, ce)) := by
  have HT := Lib.hid ht
  obtain ⟨c0, c1, c2, c3, rfl, h⟩ := ht
  obtain ⟨k0, k1, k2, a1, n1, cap1, rfl, rfl, rfl, rfl⟩ := TreeV.shape h
  clear h
  have HCE := Lib.hid hce
  clear hce
  have hz' : (ce != 0) = true := by simpa using hz
  go_enter Try.func13, Try.ntmps13
  go_wp2_with fail
  refine (check_ref t _ (next - 1) _ hs (HT.out.later ((Below.refl _ _).alloc (Nat.le_refl _) _) (by simp)) (fun w hw => size_any _ t _ w (Nat.le_refl _) hs hw) (fun w hw => may_any _ t _ _ w (Nat.le_refl _) hs hw)).mono ?_
  rintro e w1 ⟨rfl, hb1⟩
  rw [HCE.out]
  have hbb := Below.ahead hb1 (by simp)
  go_wp2_with fail
  refine bodyPost_ret (v := .tuple #[.int .i64 0, .slice none 0 0, .int .i64 0, .int .i64 ce]) (by simp [results, Try.results13, go_sem]) rfl ?_
  exact GatesPost.err hbb

set_option maxRecDepth 100000 in
set_option maxHeartbeats 400000 in
theorem gates_ref_wide (t : Tr) (x : Value) (next : Int) (w : World) (hs : t.size ≤ 2000000) (ht : TreeV w (· < w.heap.size) t x) (h1 : 1 ≤ next) (h2 : next ≤ 65537) (hce : checkE t (next - 1) = 0) (hwd : wideB t = true) :
    Calls Try.prog 13 #[x, .int .i64 next] w (GatesPost w (0, [], 0, 2)) := by
  have HT := Lib.hid ht
  obtain ⟨c0, c1, c2, c3, rfl, h⟩ := ht
  obtain ⟨k0, k1, k2, a1, n1, cap1, rfl, rfl, rfl, rfl⟩ := TreeV.shape h
  clear h
  have HCE := Lib.hid hce
  have HWD := Lib.hid hwd
  clear hce hwd
  go_enter Try.func13, Try.ntmps13
  go_wp2_with fail
  refine (check_ref t _ (next - 1) _ hs (HT.out.later ((Below.refl _ _).alloc (Nat.le_refl _) _) (by simp)) (fun w hw => size_any _ t _ w (Nat.le_refl _) hs hw) (fun w hw => may_any _ t _ _ w (Nat.le_refl _) hs hw)).mono ?_
  rintro e w1 ⟨rfl, hb1⟩
  rw [HCE.out]
  obtain ⟨q0, q1, q2, q3⟩ := boxed4 hb1 (by simp)
  have hbb := Below.ahead hb1 (by simp)
  go_wp2_with fail
  refine (broad_any _ t _ _ (Nat.le_refl _) hs (HT.out.later hbb hbb.size)).mono ?_
  rintro e w2 ⟨rfl, hb2⟩
  rw [HWD.out]
  have hbb2 := hbb.trans (hb2.mono hbb.size)
  go_wp2_with fail
  refine bodyPost_ret (v := .tuple #[.int .i64 0, .slice none 0 0, .int .i64 0, .int .i64 2]) (by simp [results, Try.results13, go_sem]) rfl ?_
  exact GatesPost.err hbb2

/-- The builder's slice, read. -/
theorem MkAt.read {w w' : World} {G : Nat → Prop} {mb : Nat} {tm tl : TypeId} {ex : List Value} {v : Value} {nx : Int} {ls : List Lin} {r : Option Nat} (h : MkAt w' G mb tm tl ex v nx ls r) (hG : ∀ k, G k → w.heap.size ≤ k) : NewAt w w' (.sl (ls.map Lin.toD)) [v] := by
  obtain ⟨h1, ⟨F, h2, h3⟩, h4, h5⟩ := h
  exact h2.read (fun k hk => ⟨hG k (h3 k hk).1, h5 k (h3 k hk).1⟩) (fun k hk => ⟨hG k (h4 k hk).1, h5 k (h4 k hk).1⟩) (by rw [lins_widths, List.length_map])

set_option maxRecDepth 100000 in
set_option maxHeartbeats 1000000 in
theorem gates_ref_lit (t : Tr) (x : Value) (next : Int) (w : World) (hs : t.size ≤ 2000000) (ht : TreeV w (· < w.heap.size) t x) (h1 : 1 ≤ next) (h2 : next ≤ 65537) (hce : checkE t (next - 1) = 0) (hwd : wideB t = false) (res : Int × List Lin × Int × Int)
    (hres : (65537 < (litF t next).2.2 ∧ res = (0, [], 0, 2)) ∨ (¬ 65537 < (litF t next).2.2 ∧ res = ((litF t next).1, (litF t next).2.1, (litF t next).2.2, 0))) :
    Calls Try.prog 13 #[x, .int .i64 next] w (GatesPost w res) := by
  have HT := Lib.hid ht
  obtain ⟨c0, c1, c2, c3, rfl, h⟩ := ht
  obtain ⟨k0, k1, k2, a1, n1, cap1, rfl, rfl, rfl, rfl⟩ := TreeV.shape h
  clear h
  have HCE := Lib.hid hce
  have HWD := Lib.hid hwd
  obtain ⟨hn1, hn2, hmay, hsz⟩ := checkE_ok hce
  have HMAY := Lib.hid hmay
  have HRES := Lib.hid hres
  clear hce hwd hmay hres
  go_enter Try.func13, Try.ntmps13
  go_wp2_with fail
  refine (check_ref t _ (next - 1) _ hs (HT.out.later ((Below.refl _ _).alloc (Nat.le_refl _) _) (by simp)) (fun w hw => size_any _ t _ w (Nat.le_refl _) hs hw) (fun w hw => may_any _ t _ _ w (Nat.le_refl _) hs hw)).mono ?_
  rintro e w1 ⟨rfl, hb1⟩
  rw [HCE.out]
  obtain ⟨q0, q1, q2, q3⟩ := boxed4 hb1 (by simp)
  have hbb := Below.ahead hb1 (by simp)
  go_wp2_with fail
  refine (broad_any _ t _ _ (Nat.le_refl _) hs (HT.out.later hbb hbb.size)).mono ?_
  rintro e w2 ⟨rfl, hb2⟩
  rw [HWD.out]
  have hbb2 := hbb.trans (hb2.mono hbb.size)
  have hlt : w.heap.size < w1.heap.size := by have := hb1.size; simp at this; omega
  have q0' := (hb2.cell (p := ⟨w.heap.size, 0, none⟩) hlt).trans q0
  have q1' := (hb2.cell (p := ⟨w.heap.size, 1, none⟩) hlt).trans q1
  have q2' := (hb2.cell (p := ⟨w.heap.size, 2, none⟩) hlt).trans q2
  have q3' := (hb2.cell (p := ⟨w.heap.size, 3, none⟩) hlt).trans q3
  have hlt2 : w.heap.size < w2.heap.size := by have := hb2.size; omega
  clear q0 q1 q2 q3 hb1 hb2 hlt
  have M0 : MkAt (w2.alloc (.cells #[.slice none 0 0, .int .i64 next] 62)) (fun _ => False) w2.heap.size 62 40 [] (.slice none 0 0) next [] none :=
    ⟨boxed (B := w2.heap.size + 1) (Below.refl _ _) (by omega), ⟨fun _ => False, Own.nil _ _ _ _ (fun _ h => h.elim), fun _ h => h.elim⟩, fun _ h => (by cases h), fun _ h => h.elim⟩
  have HM0 := Lib.hid M0
  have HBA : Hid (Below w2.heap.size w2 (w2.alloc (.cells #[.slice none 0 0, .int .i64 next] 62))) := (Below.refl _ _).alloc (Nat.le_refl _) _
  have HBB := Lib.hid hbb2
  clear M0
  go_wp2_with fail
  refine (lit_ref _ t _ (next - 1) next _ [] none _ w2.heap.size w2.heap.size (fun _ => False) (Nat.le_refl _) HMAY.out (by omega) h1 (by omega) (by simp; omega) ((HT.out.later HBB.out HBB.out.size).agree (agree_of_below HBA.out)) (by simp) (Nat.le_refl _) (fun _ h => h.elim) HM0.out).mono ?_
  rintro e w3 ⟨rfl, v', r', hM, hfr, hmod⟩
  have HB := litF_bound t next (next - 1) HMAY.out h1
  rw [List.nil_append] at hM
  obtain ⟨p0, p1, p2, p3⟩ := hM.cells
  have hb3 : Below w.heap.size w w3 := HBB.out.trans ((HBA.out.trans (hmod.below (B := w2.heap.size) (by simp) (fun k hk => by rcases hk with rfl | hk; exact Nat.le_refl _; cases hk))).mono HBB.out.size)
  have hnew : NewAt w w3 (.sl ((litF t next).2.1.map Lin.toD)) [v'] := MkAt.read hM (fun k hk => by rcases hk with h | h; exact h.elim; simp at h; omega)
  have HNEW := Lib.hid hnew
  obtain ⟨va, vcap, hv⟩ : ∃ a cap, v' = .slice a (litF t next).2.1.length cap := by
    obtain ⟨_, ⟨F, o, _⟩, _, _⟩ := hM
    obtain ⟨a, cap, h⟩ := o.form
    exact ⟨a, cap, by simpa using h⟩
  subst hv
  clear hM hfr hmod hnew
  rcases HRES.out with ⟨hr, rfl⟩ | ⟨hr, rfl⟩
  · generalize (litF t next).2.2 = nx at *
    go_wp2_with fail
    refine bodyPost_ret (v := .tuple #[.int .i64 0, .slice none 0 0, .int .i64 0, .int .i64 2]) (by simp [results, Try.results13, go_sem]) rfl ?_
    exact GatesPost.err hb3
  · generalize hnx : (litF t next).2.2 = nx at *
    generalize hly : (litF t next).1 = ly at *
    generalize hll : (litF t next).2.1 = ll at *
    clear hnx hly hll
    go_wp2_with fail
    go_quiet (fail)
    go_wp2_with fail
    refine bodyPost_ret (v := .tuple #[.int .i64 ly, .slice va ll.length vcap, .int .i64 nx, .int .i64 0]) (by simp [results, Try.results13, go_sem]) rfl ?_
    refine ⟨_, rfl, DAt.agree (w := w3) (w' := w3.drewN _) (F := fun k => w.heap.size ≤ k ∧ k < w3.heap.size) (fun _ _ => rfl) _ _ HNEW.out, hb3.os, hb3.tape, hb3.output, hb3.size, hb3.block⟩

theorem gates_ref (t : Tr) (x : Value) (next : Int) (w : World) (hs : t.size ≤ 2000000) (ht : TreeV w (· < w.heap.size) t x) :
    Calls Try.prog 13 #[x, .int .i64 next] w (GatesPost w (gatesF t next)) := by
  by_cases h0 : next < 1 ∨ 65537 < next
  · rw [gatesF_arg h0]; exact gates_ref_arg t x next w ht h0
  by_cases hc : checkE t (next - 1) = 0
  · by_cases hw : wideB t = true
    · rw [gatesF_wide h0 hc hw]; exact gates_ref_wide t x next w hs ht (by omega) (by omega) hc hw
    · have hw' : wideB t = false := by simpa using hw
      refine gates_ref_lit t x next w hs ht (by omega) (by omega) hc hw' _ ?_
      by_cases hb : 65537 < (litF t next).2.2
      · exact .inl ⟨hb, gatesF_bound h0 hc hw' hb⟩
      · exact .inr ⟨hb, gatesF_ok h0 hc hw' hb⟩
  · rw [gatesF_check h0 hc]; exact gates_ref_check t x next w hs ht (by omega) (by omega) _ rfl hc

end Go.Proofs.Ytpacnaeckbcpjaa
