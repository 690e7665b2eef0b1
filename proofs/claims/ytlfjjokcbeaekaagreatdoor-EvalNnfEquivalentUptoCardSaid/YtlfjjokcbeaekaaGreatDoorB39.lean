/- Joined texts: EvQ, EvR, EvS, EvT. -/
import Derived.Test.YtlfjjokcbeaekaaGreatDoorB38
import Derived.Test.YtlfjjokcbeaekaaGreatDoorB15
import Derived.Test.YtlfjjokcbeaekaaGreatDoorB31

/- eval.Holds. -/
namespace Go.Chalk
open Go.RowKit
theorem goTimes_all : ∀ (l : List Slt) (met : List (Int × Int)), goTimes met l = true → ∀ q ∈ l, 0 ≤ q.day ∧ q.day ≤ 6 ∧ 0 ≤ q.hour ∧ q.hour ≤ 11
  | x :: r, met, h, q, hq => by
    rw [goTimes] at h
    simp only [Bool.and_eq_true, withinB, decide_eq_true_eq] at h
    rcases List.mem_cons.1 hq with rfl | hq
    · omega
    · exact goTimes_all r _ h.2 q hq
theorem school_valid {s : Schl} (h : schCheck s = 0) : (∀ q ∈ s.groups, 0 ≤ q.size ∧ q.size ≤ 1000) ∧ (∀ q ∈ s.slots, 0 ≤ q.day ∧ q.day ≤ 6 ∧ 0 ≤ q.hour ∧ q.hour ≤ 11) := by
  unfold schCheck at h
  split at h
  · cases h
  split at h
  · cases h
  rename_i h2
  split at h
  · cases h
  split at h
  · cases h
  rename_i h4
  simp only [Bool.or_eq_true, not_or, List.any_eq_true, not_exists, not_and] at h4
  refine ⟨fun q hq => ?_, goTimes_all s.slots [] (by simpa using h2)⟩
  have := h4.1.2 q hq
  unfold badGroup withinB at this
  simp at this
  exact this
/-- What holds asks, when Holds asks it. -/
theorem holds_ok {s : Schl} {l : List Plc} {env : List Ev} {f : Frm} (h1 : weekCheck s l = 0) (h2 : evMay s env = true) (h3 : typForm (evBinds env) f = 0) (h4 : broadF s f ≤ 1048576) : HoldsOk s l env f := by
  unfold typForm at h3
  rw [if_neg (by rw [evMay_mayA h2]; simp)] at h3
  by_cases hc : frmCheck f = 0
  · rw [if_neg (by simpa using hc)] at h3
    obtain ⟨c1, c2, c3⟩ := frmCheck_zero.1 hc
    exact ⟨h1, h2, c1, c2, c3, h3, h4⟩
  · rw [if_pos hc] at h3; exact absurd h3 hc
end Go.Chalk
namespace Go.Proofs.YtlfjjokcbeaekaaGreatDoor
open Go.RowKit Go.Chalk

set_option maxRecDepth 100000 in
set_option maxHeartbeats 4000000 in
theorem eholds_any (s : Schl) (x : SchA) (l : List Plc) (y : SlA) (env : List Ev) (z : SlA) (f : Frm) (fa : FrmA) (w : World) (hI : ItoaAt) (hf : SchFit s) (hff : FrmFit f) (hg : GG w) (hs : SchIn w (· < w.heap.size) s x) (hy : SlIn w (· < w.heap.size) (l.map Plc.toD) y) (hl : l.length ≤ 2000000)
    (hz : SlIn w (· < w.heap.size) (env.map Ev.toD) z) (hel : env.length ≤ 1500000) (hmax : ∀ e ∈ env, e.name.length ≤ 4000000) (hx : FrmIn w (· < w.heap.size) f fa) :
    Calls Tryz.prog 11 #[.agg (x.cells s).toArray, .agg #[.slice y.a l.length y.cap], .slice z.a env.length z.cap, ndV (f, fa)] w fun e w' => e = .returned (.tuple #[.bool (evHolds s l env f).1, .int .i64 (evHolds s l env f).2]) ∧ Below w.heap.size w w' := by
  have HWC := Lib.hid (fun (W : World) (hW : Below w.heap.size w W) => wcheck_any s x l y W hI (hs.later hW hW.size) hf (hy.later hW hW.size) hl (hg.below hW))
  have HMY := Lib.hid (fun (W : World) (hW : Below w.heap.size w W) => emay_any s x env z W hI hf.toSchSmall (hs.later hW hW.size) (hz.later hW hW.size) hel hmax (hg.below hW))
  have HBN : Hid (∀ W, Below w.heap.size w W → Calls Tryz.prog 31 #[.slice z.a env.length z.cap] W fun e w' => ∃ x0 : SlA, e = .returned (.slice x0.a env.length x0.cap) ∧ SlIn w' (· < w'.heap.size) ((evBinds env).map Bnd.toD) x0 ∧ Below W.heap.size W w') :=
    Lib.hid (fun W hW => (ebinds_any env z W (hz.later hW hW.size) (by omega)).mono (by
      rintro e w' ⟨v, rfl, hon, hb⟩
      obtain ⟨x0, rfl, hx0⟩ := hon.sl (by rw [widths_map Bnd.flatT, List.length_map])
      exact ⟨x0, by rw [List.length_map]; unfold evBinds; rw [List.length_map], hx0, hb⟩))
  have hbl : (evBinds env).length = env.length := by simp [evBinds]
  have HTF : Hid (∀ (W : World) (x0 : SlA), Below w.heap.size w W → SlIn W (· < W.heap.size) ((evBinds env).map Bnd.toD) x0 → Calls Tryz.prog 30 #[.slice x0.a env.length x0.cap, ndV (f, fa)] W fun e w' => e = .returned (.int .i64 (typForm (evBinds env) f)) ∧ Below W.heap.size W w') :=
    Lib.hid (fun W x0 hW h0 => by
      have h := tform_any (evBinds env) x0 f fa W h0 (hx.later hW hW.size) (by omega) (fun b hb => by
        unfold evBinds at hb
        obtain ⟨e, he, rfl⟩ := List.mem_map.1 hb
        exact hmax e he) hff (hg.below hW)
      rwa [hbl] at h)
  have HBR := Lib.hid (fun (W : World) (hW : Below w.heap.size w W) => broad_any s x hI hf.toSchSmall f.size f fa W (Nat.le_refl _) hff.size (fun g hg => (hff.nodes g hg).2.1) (hs.later hW hW.size) (hx.later hW hW.size))
  have HHO := Lib.hid (fun (h1 : weekCheck s l = 0) (h2 : evMay s env = true) (h3 : typForm (evBinds env) f = 0) (h4 : broadF s f ≤ 1048576) (W : World) (hW : Below w.heap.size w W) =>
    holds_any s x l y hI hf (school_valid (week_school h1)).1 (school_valid (week_school h1)).2 f.size f fa env z W (Nat.le_refl _) (holds_ok h1 h2 h3 h4) (by have := (holds_ok h1 h2 h3 h4).depth; omega) (hg.below hW) (hs.later hW hW.size) (hy.later hW hW.size) (hz.later hW hW.size) (hx.later hW hW.size))
  have HR : Hid (evHolds s l env f = if weekCheck s l ≠ 0 then (false, weekCheck s l) else if evMay s env = false then (false, 1) else if typForm (evBinds env) f ≠ 0 then (false, typForm (evBinds env) f) else if 1048576 < broadF s f then (false, 2) else (holdsF s l env f, 0)) := Lib.hid rfl
  clear hbl hx hz hy hs hg hff hf hI hl hel hmax
  generalize evHolds s l env f = res at HR ⊢
  generalize weekCheck s l = wc at HWC HHO HR
  generalize evMay s env = my at HMY HHO HR
  generalize typForm (evBinds env) f = tf at HTF HHO HR
  generalize broadF s f = bf at HBR HHO HR
  generalize holdsF s l env f = hv at HHO HR
  generalize hE : evBinds env = eb at HBN HTF
  clear hE
  obtain ⟨kind, name, n, terms, binds, fl⟩ := f
  unfold stV at HHO
  simp only [ndV, FrmA.cells, SlA.val, SchA.cells, Frm.kind, Frm.name, Frm.n, Frm.terms, Frm.binds, Frm.l] at HWC HMY HTF HBR HHO ⊢
  have HB : Hid (Below w.heap.size w (((w.alloc (.cells #[.slice x.slots.a s.slots.length x.slots.cap, .slice x.rooms.a s.rooms.length x.rooms.cap, .slice x.people.a s.people.length x.people.cap, .slice x.groups.a s.groups.length x.groups.cap, .slice x.lessons.a s.lessons.length x.lessons.cap] 28)).alloc (.cells #[.slice y.a l.length y.cap] 31)).alloc (.cells #[.int .i64 kind, .string ⟨name.toArray⟩, .int .i64 n, .slice fa.t.a terms.length fa.t.cap, .slice fa.b.a binds.length fa.b.cap, .slice fa.l.a fl.length fa.l.cap] 37))) := Lib.hid ((((Below.refl _ _).alloc (Nat.le_refl _) _).alloc (by simp) _).alloc (by simp; omega) _)
  have HK : Hid (∀ W', Below (((w.alloc (.cells #[.slice x.slots.a s.slots.length x.slots.cap, .slice x.rooms.a s.rooms.length x.rooms.cap, .slice x.people.a s.people.length x.people.cap, .slice x.groups.a s.groups.length x.groups.cap, .slice x.lessons.a s.lessons.length x.lessons.cap] 28)).alloc (.cells #[.slice y.a l.length y.cap] 31)).alloc (.cells #[.int .i64 kind, .string ⟨name.toArray⟩, .int .i64 n, .slice fa.t.a terms.length fa.t.cap, .slice fa.b.a binds.length fa.b.cap, .slice fa.l.a fl.length fa.l.cap] 37)).heap.size (((w.alloc (.cells #[.slice x.slots.a s.slots.length x.slots.cap, .slice x.rooms.a s.rooms.length x.rooms.cap, .slice x.people.a s.people.length x.people.cap, .slice x.groups.a s.groups.length x.groups.cap, .slice x.lessons.a s.lessons.length x.lessons.cap] 28)).alloc (.cells #[.slice y.a l.length y.cap] 31)).alloc (.cells #[.int .i64 kind, .string ⟨name.toArray⟩, .int .i64 n, .slice fa.t.a terms.length fa.t.cap, .slice fa.b.a binds.length fa.b.cap, .slice fa.l.a fl.length fa.l.cap] 37)) W' → (W'.cell? ⟨w.heap.size, 0, none⟩ = some (.slice x.slots.a s.slots.length x.slots.cap) ∧ W'.cell? ⟨w.heap.size, 1, none⟩ = some (.slice x.rooms.a s.rooms.length x.rooms.cap) ∧ W'.cell? ⟨w.heap.size, 2, none⟩ = some (.slice x.people.a s.people.length x.people.cap) ∧ W'.cell? ⟨w.heap.size, 3, none⟩ = some (.slice x.groups.a s.groups.length x.groups.cap) ∧ W'.cell? ⟨w.heap.size, 4, none⟩ = some (.slice x.lessons.a s.lessons.length x.lessons.cap) ∧ W'.cell? ⟨w.heap.size + 1, 0, none⟩ = some (.slice y.a l.length y.cap)) ∧ (W'.cell? ⟨w.heap.size + 1 + 1, 0, none⟩ = some (.int .i64 kind) ∧ W'.cell? ⟨w.heap.size + 1 + 1, 1, none⟩ = some (.string ⟨name.toArray⟩) ∧ W'.cell? ⟨w.heap.size + 1 + 1, 2, none⟩ = some (.int .i64 n) ∧ W'.cell? ⟨w.heap.size + 1 + 1, 3, none⟩ = some (.slice fa.t.a terms.length fa.t.cap) ∧ W'.cell? ⟨w.heap.size + 1 + 1, 4, none⟩ = some (.slice fa.b.a binds.length fa.b.cap) ∧ W'.cell? ⟨w.heap.size + 1 + 1, 5, none⟩ = some (.slice fa.l.a fl.length fa.l.cap))) := Lib.hid (fun W' hW => by
    have g0 : (((w.alloc (.cells #[.slice x.slots.a s.slots.length x.slots.cap, .slice x.rooms.a s.rooms.length x.rooms.cap, .slice x.people.a s.people.length x.people.cap, .slice x.groups.a s.groups.length x.groups.cap, .slice x.lessons.a s.lessons.length x.lessons.cap] 28)).alloc (.cells #[.slice y.a l.length y.cap] 31)).alloc (.cells #[.int .i64 kind, .string ⟨name.toArray⟩, .int .i64 n, .slice fa.t.a terms.length fa.t.cap, .slice fa.b.a binds.length fa.b.cap, .slice fa.l.a fl.length fa.l.cap] 37)).heap[w.heap.size]? = some (.cells #[.slice x.slots.a s.slots.length x.slots.cap, .slice x.rooms.a s.rooms.length x.rooms.cap, .slice x.people.a s.people.length x.people.cap, .slice x.groups.a s.groups.length x.groups.cap, .slice x.lessons.a s.lessons.length x.lessons.cap] 28 (0, 0)) := by simp only [heap_get, World.size_alloc]; rw [if_neg (by omega), if_neg (by omega), if_pos trivial]
    have g1 : (((w.alloc (.cells #[.slice x.slots.a s.slots.length x.slots.cap, .slice x.rooms.a s.rooms.length x.rooms.cap, .slice x.people.a s.people.length x.people.cap, .slice x.groups.a s.groups.length x.groups.cap, .slice x.lessons.a s.lessons.length x.lessons.cap] 28)).alloc (.cells #[.slice y.a l.length y.cap] 31)).alloc (.cells #[.int .i64 kind, .string ⟨name.toArray⟩, .int .i64 n, .slice fa.t.a terms.length fa.t.cap, .slice fa.b.a binds.length fa.b.cap, .slice fa.l.a fl.length fa.l.cap] 37)).heap[w.heap.size + 1]? = some (.cells #[.slice y.a l.length y.cap] 31 (0, 0)) := by simp only [heap_get, World.size_alloc]; rw [if_neg (by omega), if_pos trivial]
    have g2 : (((w.alloc (.cells #[.slice x.slots.a s.slots.length x.slots.cap, .slice x.rooms.a s.rooms.length x.rooms.cap, .slice x.people.a s.people.length x.people.cap, .slice x.groups.a s.groups.length x.groups.cap, .slice x.lessons.a s.lessons.length x.lessons.cap] 28)).alloc (.cells #[.slice y.a l.length y.cap] 31)).alloc (.cells #[.int .i64 kind, .string ⟨name.toArray⟩, .int .i64 n, .slice fa.t.a terms.length fa.t.cap, .slice fa.b.a binds.length fa.b.cap, .slice fa.l.a fl.length fa.l.cap] 37)).heap[w.heap.size + 1 + 1]? = some (.cells #[.int .i64 kind, .string ⟨name.toArray⟩, .int .i64 n, .slice fa.t.a terms.length fa.t.cap, .slice fa.b.a binds.length fa.b.cap, .slice fa.l.a fl.length fa.l.cap] 37 (0, 0)) := by simp only [heap_get, World.size_alloc]; rw [if_pos trivial]
    have c0 := (hW.block _ (Array.getElem?_eq_some_iff.1 g0).1).trans g0
    have c1 := (hW.block _ (Array.getElem?_eq_some_iff.1 g1).1).trans g1
    have c2 := (hW.block _ (Array.getElem?_eq_some_iff.1 g2).1).trans g2
    exact ⟨⟨cell_of_heap c0 rfl, cell_of_heap c0 rfl, cell_of_heap c0 rfl, cell_of_heap c0 rfl, cell_of_heap c0 rfl, cell_of_heap c1 rfl⟩, cell_of_heap c2 rfl, cell_of_heap c2 rfl, cell_of_heap c2 rfl, cell_of_heap c2 rfl, cell_of_heap c2 rfl, cell_of_heap c2 rfl⟩)
  go_enter Tryz.func11, Tryz.ntmps11
  go_wp2_with fail
  refine (HWC.out _ HB.out).mono ?_
  rintro e w1 ⟨rfl, hb1⟩
  have HC1 := Lib.hid (And.intro hb1 (HB.out.trans (hb1.mono HB.out.size)))
  clear hb1
  by_cases h1 : wc ≠ 0
  · have d1 : (wc != 0) = true := by simpa using h1
    have HD := Lib.hid h1
    clear h1
    go_wp2_with fail
    go_ret2
    exact ⟨by rw [HR.out]; simp [HD.out], HC1.out.2⟩
  obtain rfl : wc = 0 := by omega
  clear h1
  obtain ⟨⟨a0, a1, a2, a3, a4, a5⟩, _⟩ := HK.out w1 HC1.out.1
  go_wp2_with fail
  refine (HMY.out _ HC1.out.2).mono ?_
  rintro e w2 ⟨rfl, hb2⟩
  have HC2 := Lib.hid (And.intro (HC1.out.1.trans (hb2.mono HC1.out.1.size)) (HC1.out.2.trans (hb2.mono HC1.out.2.size)))
  clear hb2 a0 a1 a2 a3 a4 a5
  cases my
  · go_wp2_with fail
    go_ret2
    exact ⟨by rw [HR.out]; simp, HC2.out.2⟩
  go_wp2_with fail
  go_region_held3 (fun w' => w'.cell? ⟨w.heap.size + 1 + 1, 0, none⟩ = some (.int .i64 kind) ∧ w'.cell? ⟨w.heap.size + 1 + 1, 1, none⟩ = some (.string ⟨name.toArray⟩) ∧ w'.cell? ⟨w.heap.size + 1 + 1, 2, none⟩ = some (.int .i64 n) ∧ w'.cell? ⟨w.heap.size + 1 + 1, 3, none⟩ = some (.slice fa.t.a terms.length fa.t.cap) ∧ w'.cell? ⟨w.heap.size + 1 + 1, 4, none⟩ = some (.slice fa.b.a binds.length fa.b.cap) ∧ w'.cell? ⟨w.heap.size + 1 + 1, 5, none⟩ = some (.slice fa.l.a fl.length fa.l.cap)) ((refine (HK.out _ ?_).2; first | exact HC4.out.1 | exact HC3.out.1 | exact HC2.out.1.drew | fail)) (first
    | (go_at_call 30; refine (HTF.out _ x0 HC3.out.2.1 HC3.out.2.2).mono ?_; rintro e w4 ⟨rfl, hbb⟩; have HC4 := Lib.hid (And.intro (HC3.out.1.trans (hbb.mono HC3.out.1.size)) (HC3.out.2.1.trans (hbb.mono HC3.out.2.1.size))); clear hbb)
    | (go_at_call 31; refine (HBN.out _ HC2.out.2.drew).mono ?_; rintro e w3 ⟨x0, rfl, hx0, hbb⟩; have HC3 := Lib.hid (And.intro (HC2.out.1.drew.trans (hbb.mono HC2.out.1.drew.size)) (And.intro (HC2.out.2.drew.trans (hbb.mono HC2.out.2.drew.size)) hx0)); clear hbb hx0))
  all_goals
    by_cases h1 : tf ≠ 0
    · have d1 : (tf != 0) = true := by simpa using h1
      have HD := Lib.hid h1
      clear h1
      go_wp2_with fail
      go_ret2
      exact ⟨by rw [HR.out]; simp [HD.out], HC4.out.2⟩
    obtain rfl : tf = 0 := by omega
    clear h1
    obtain ⟨⟨a0, a1, a2, a3, a4, a5⟩, b0, b1, b2, b3, b4, b5⟩ := HK.out w4 HC4.out.1
    go_wp2_with fail
    refine (HBR.out _ HC4.out.2).mono ?_
    rintro e w5 ⟨rfl, hb5⟩
    have HC5 := Lib.hid (And.intro (HC4.out.1.trans (hb5.mono HC4.out.1.size)) (HC4.out.2.trans (hb5.mono HC4.out.2.size)))
    clear hb5 a0 a1 a2 a3 a4 a5 b0 b1 b2 b3 b4 b5
    by_cases h1 : (1048576 : Int) < (bf : Int)
    · have HD := Lib.hid (by omega : 1048576 < bf)
      go_wp2_with fail
      go_ret2
      exact ⟨by rw [HR.out]; simp [HD.out], HC5.out.2⟩
    have h1' : decide ((1048576 : Int) < (bf : Int)) = false := by simpa using h1
    have HD := Lib.hid (by omega : ¬ 1048576 < bf)
    have HHW := Lib.hid (HHO.out (by first | rfl | trivial) (by first | rfl | trivial) (by first | rfl | trivial) (by omega) w5 HC5.out.2)
    clear h1
    obtain ⟨⟨a0, a1, a2, a3, a4, a5⟩, b0, b1, b2, b3, b4, b5⟩ := HK.out w5 HC5.out.1
    go_wp2_with fail
    refine HHW.out.mono ?_
    rintro e w6 ⟨rfl, hb6⟩
    have HC6 := Lib.hid (HC5.out.2.trans (hb6.mono HC5.out.2.size))
    clear hb6
    go_wp2_with fail
    go_ret2
    exact ⟨by rw [HR.out]; simp [HD.out], HC6.out⟩
end Go.Proofs.YtlfjjokcbeaekaaGreatDoor

/- eval.great. -/
namespace Go.Proofs.YtlfjjokcbeaekaaGreatDoor
open Go.RowKit Go.Chalk

set_option maxRecDepth 100000 in
set_option maxHeartbeats 2000000 in
theorem egreat_any (s : Schl) (x : SchA) (l : List Rul) (y : SlA) (w : World) (hI : ItoaAt) (hsm : SchSmall s) (hs : SchIn w (· < w.heap.size) s x) (hy : SlIn w (· < w.heap.size) (l.map Rul.toD) y) (hl : l.length ≤ 2000000) (hf : ∀ r ∈ l, RulFit r) :
    Calls Tryz.prog 38 #[.agg (x.cells s).toArray, .slice y.a l.length y.cap] w fun e w' => e = .returned (.bool (greatGo s l 0 0)) ∧ Below w.heap.size w w' := by
  have hba : Below w.heap.size w (w.alloc (.cells (x.cells s).toArray 28)) := (Below.refl _ _).alloc (Nat.le_refl _) _
  have hbx : SchBox (w.alloc (.cells (x.cells s).toArray 28)) w.heap.size s x := by unfold SchBox; rw [heap_get, if_pos rfl]
  have HIN : Hid (∀ (j : Nat) (hj : j < l.length), ∃ z : RulA, RulIn w (· < w.heap.size) l[j] z ∧ CellsAt w y.b (y.o + j * 10) (z.cells l[j])) := Lib.hid (fun j hj => hy.rul j hj)
  have HSL := Lib.hid hy.at_
  have HMN := Lib.hid (fun (j : Nat) (hj : j < l.length) (z : RulA) (hz : RulIn w (· < w.heap.size) l[j] z) (W : World) (hW : Below w.heap.size w W) => many_any s x l[j].each z.each W hI (hs.later hW hW.size) hsm (hz.each.later hW hW.size) (by have := (hf _ (List.getElem_mem hj)).len; omega))
  have HBR := Lib.hid (fun (j : Nat) (hj : j < l.length) (z : RulA) (hz : RulIn w (· < w.heap.size) l[j] z) (W : World) (hW : Below w.heap.size w W) => broad_any s x hI hsm l[j].body.size l[j].body z.body W (Nat.le_refl _) (hf _ (List.getElem_mem hj)).body.size (fun g hg => ((hf _ (List.getElem_mem hj)).body.nodes g hg).2.1) (hs.later hW hW.size) (hz.body.later hW hW.size))
  obtain ⟨res, hres⟩ : ∃ res, res = greatGo s l 0 0 := ⟨_, rfl⟩
  rw [← hres]
  have HRS := Lib.hid (show res = greatGo s l 0 0 from hres)
  have HB := Lib.hid (And.intro hba hbx)
  clear hs hy hf hres hba hbx hI hsm
  simp only [SchA.cells, SlA.val] at HB HMN HBR ⊢
  go_enter Tryz.func38, Tryz.ntmps38
  go_wp2_with fail
  go_loopw [5, 6, 12] (fun nn ww i wr => ∃ (j n wd : Nat), j ≤ l.length ∧ i = .int .i64 j ∧ nn = .int .i64 n ∧ ww = .int .i64 wd ∧ n ≤ j * 1048577 ∧ wd ≤ 1048577 ∧ Below w.heap.size w wr ∧ Hid (SchBox wr w.heap.size s x) ∧ Hid (res = greatGo s (l.drop j) n wd)) (fun _ _ i _ => l.length - (intOf i).toNat)
  case atStart => exact ⟨0, 0, 0, Nat.zero_le _, rfl, rfl, rfl, by omega, by omega, HB.out.1, Lib.hid HB.out.2, HRS⟩
  case round =>
    obtain ⟨j, n, wd, hj, rfl, rfl, rfl, hn, hw, hb, HBX, HE⟩ := hrel
    have hn2 : n ≤ 2097154000000 := by omega
    by_cases hlt : j < l.length
    · obtain ⟨z, hz1, hz2⟩ := HIN.out j hlt
      obtain ⟨hxa, hFb⟩ := HSL.out (by rw [List.length_map]; omega)
      have hys := hz2.agree (agree_of_below hb) hFb
      have hbr : Below wr.heap.size wr (wr.alloc (.cells (z.cells l[j]).toArray 66)) := (Below.refl _ _).alloc (Nat.le_refl _) _
      have hbw := hb.trans (hbr.mono hb.size)
      have hsb := HBX.out.below hbr
      obtain ⟨c0, c1, c2, c3, c4⟩ := hsb.cells
      have HM1 := Lib.hid (HMN.out j hlt z hz1 _ hbw)
      have HB1 := Lib.hid (HBR.out j hlt z hz1)
      have hdrop : l.drop j = l[j] :: l.drop (j + 1) := List.drop_eq_getElem_cons hlt
      have hstep : greatGo s (l.drop j) n wd = greatGo s (l.drop (j + 1)) (n + manyF s l[j].each) (min (wd + timesF (manyF s l[j].each) (broadF s l[j].body)) 1048577) := by rw [hdrop, greatGo]
      have HST := Lib.hid (HE.out.trans hstep)
      have hmy := manyF_le s l[j].each
      have hbf := broadF_le s l[j].body
      have HW := Lib.hid (And.intro hbw hsb)
      rw [hxa]
      clear hz1 hz2 hFb hbr hbw hsb hdrop hstep
      generalize manyF s l[j].each = my at HM1 HST hmy
      generalize broadF s l[j].body = bf at HB1 HST hbf
      have htm := timesF_le my bf
      generalize l[j] = re at HM1 HB1 HW hys c0 c1 c2 c3 c4
      obtain ⟨name, hard, weight, each, ⟨kind, fname, fn, terms, binds, fl⟩⟩ := re
      obtain ⟨ye, yb⟩ := z
      simp only [ndV, RulA.cells, SchA.cells, FrmA.cells, SlA.val, Frm.kind, Frm.name, Frm.n, Frm.terms, Frm.binds, Frm.l] at HM1 HB1 HW hys c0 c1 c2 c3 c4
      obtain ⟨e0, e1, e2, e3, e4, e5, e6, e7, e8, e9⟩ := hys.ten
      clear hys
      go_wp2_with fail
      refine HM1.out.mono ?_
      rintro e w1 ⟨rfl, hb1⟩
      have hblk : w1.heap[wr.heap.size]? = some (.cells #[.string ⟨name.toArray⟩, .bool hard, .int .i64 weight, .slice ye.a each.length ye.cap, .int .i64 kind, .string ⟨fname.toArray⟩, .int .i64 fn, .slice yb.t.a terms.length yb.t.cap, .slice yb.b.a binds.length yb.b.cap, .slice yb.l.a fl.length yb.l.cap] 66 (0, 0)) := boxed (B := wr.heap.size + 1) (by simpa using hb1) (by omega)
      have hsb1 := HW.out.2.below hb1
      have hbw1 := HW.out.1.trans (hb1.mono HW.out.1.size)
      have HB2 := Lib.hid (HB1.out w1 hbw1)
      have HW1 := Lib.hid (And.intro hbw1 hsb1)
      obtain ⟨d0, d1, d2, d3, d4⟩ := hsb1.cells
      have b0 : w1.cell? ⟨wr.heap.size, 4, none⟩ = some (.int .i64 kind) := cell_of_heap hblk rfl
      have b1 : w1.cell? ⟨wr.heap.size, 5, none⟩ = some (.string ⟨fname.toArray⟩) := cell_of_heap hblk rfl
      have b2 : w1.cell? ⟨wr.heap.size, 6, none⟩ = some (.int .i64 fn) := cell_of_heap hblk rfl
      have b3 : w1.cell? ⟨wr.heap.size, 7, none⟩ = some (.slice yb.t.a terms.length yb.t.cap) := cell_of_heap hblk rfl
      have b4 : w1.cell? ⟨wr.heap.size, 8, none⟩ = some (.slice yb.b.a binds.length yb.b.cap) := cell_of_heap hblk rfl
      have b5 : w1.cell? ⟨wr.heap.size, 9, none⟩ = some (.slice yb.l.a fl.length yb.l.cap) := cell_of_heap hblk rfl
      clear hb1 hblk hsb1 hbw1 e0 e1 e2 e3 e4 e5 e6 e7 e8 e9 c0 c1 c2 c3 c4
      go_wp2_with fail
      refine HB2.out.mono ?_
      rintro e w2 ⟨rfl, hb2⟩
      have HW2 := Lib.hid (And.intro (HW1.out.1.trans (hb2.mono HW1.out.1.size)) (HW1.out.2.below hb2))
      clear hb2 b0 b1 b2 b3 b4 b5 d0 d1 d2 d3 d4
      go_wp2_with (go_at_call 61; refine (times_any my bf (by omega) (by omega) _).mono ?_; rintro e w' ⟨rfl, rfl⟩)
      exact ⟨⟨j + 1, n + my, min (wd + timesF my bf) 1048577, by omega, by go_num, by go_num, by congr 1; omega, by omega, by omega, HW2.out.1, Lib.hid HW2.out.2, HST⟩, by simp [intOf]; omega⟩
    · have hjl : j = l.length := by omega
      have HD : Hid (res = (decide (4096 < n) || decide (1048576 < wd))) := Lib.hid (by rw [HE.out, hjl, List.drop_length, greatGo])
      clear hjl
      by_cases h1 : (4096 : Int) < (n : Int)
      · have HN := Lib.hid (by omega : 4096 < n)
        go_wp2_with fail
        go_ret
        exact ⟨ret_bool (by rw [HD.out]; simp [HN.out]), hb⟩
      · have h1' : decide ((4096 : Int) < (n : Int)) = false := by simpa using h1
        have HN := Lib.hid (by omega : ¬ 4096 < n)
        clear h1
        go_wp2_with fail
        go_ret
        exact ⟨ret_bool (by rw [HD.out]; simp [HN.out]; try omega), hb⟩
end Go.Proofs.YtlfjjokcbeaekaaGreatDoor

/- slices.AppendSeq and Collect over tuples. -/
namespace Go.Proofs.YtlfjjokcbeaekaaGreatDoor
open Go.RowKit Go.Chalk
attribute [local go_sem] Oper.semAt_some
theorem infoSInt : (Tryz.prog.info? 69).map (fun i => (i.zero, i.size, i.bytes)) = some (some (.slice none 0 0), 1, 24) := by kernel_rfl
/-- A list of tuples as a datum. -/
def tupsD (ts : List (List Nat)) : List D := ts.map (fun t => .sl (dints (nats t)))

theorem tupsD_widths : ∀ ts : List (List Nat), widths (tupsD ts) = (tupsD ts).length
  | [] => rfl
  | t :: r => by
    have h := tupsD_widths r
    unfold tupsD at h ⊢
    rw [List.map_cons, widths, h, show (D.sl (dints (nats t))).width = 1 from by simp [D.width], List.length_cons]; omega
set_option maxRecDepth 100000 in
set_option maxHeartbeats 4000000 in
theorem appendSeq_any (gf : Nat) (lb : Array Value) (sz : List Nat) (D : Nat → Prop) (w : World) (hent : ∀ args w, (callFunc gf args).run Tryz.prog w = .ok (.enter gf args) w) (hit : IterV Tryz.prog gf lb (tuplesF sz).length 1 (tupE sz) D w) (hD : ∀ k, D k → k < w.heap.size) (hl : (tuplesF sz).length ≤ 1048576) :
    Calls Tryz.prog 96 #[.slice none 0 0, .func (.func gf) #[] lb] w fun e w' => ∃ x0 : SlA, e = .returned (.slice x0.a (tuplesF sz).length x0.cap) ∧ SlIn w' (fun k => w.heap.size ≤ k ∧ k < w'.heap.size) (tupsD (tuplesF sz)) x0 ∧ Below w.heap.size w w' := by
  have HIT := Lib.hid (fun (W : World) (hW : Below w.heap.size w W) => hit.mono ((agree_of_below hW).mono hD) (fun _ h => h))
  clear hit
  refine (callsIn_wide (n := 0)).1 (callsIn_of_wp_marks Tryz.func96 rfl trivial ?_)
  simp only [Tryz.ntmps96, List.size_toArray, List.length_cons, List.length_nil, Nat.reduceAdd, Nat.reduceSub, Array.replicate_succ, Array.replicate_zero, List.push_toArray, List.append_toArray, List.nil_append, List.cons_append]
  gi_wp2_with fail
  generalize hW1 : w.alloc _ = W1
  have hb1 : Below w.heap.size w W1 := by rw [← hW1]; exact (Below.refl _ _).alloc (Nat.le_refl _) _
  have hsz : W1.heap.size = w.heap.size + 1 := by rw [← hW1]; simp
  have g0 : W1.heap[w.heap.size]? = some (.cells #[.slice none 0 0] 62 (0, 0)) := by rw [← hW1]; exact boxed (B := w.heap.size + 1) (Below.refl _ _) (by omega)
  have G := Lib.hid (And.intro hb1 (And.intro hsz g0))
  have HDD := Lib.hid hD
  clear hW1 hb1 hsz g0 hD
  refine wp_rangeV (gf := gf) (lb := lb) rfl hent (HIT.out W1 G.out.1) rfl (fun k => k = w.heap.size) (fun k hk => by have := HDD.out k hk; have := G.out.2.1; omega) (fun k hk => by have := G.out.2.1; omega)
    (fun i T W => BoxOwn W w.heap.size 62 69 1 w.heap.size (tupsD ((tuplesF sz).take i)) T) (fun _ _ _ _ => False) BoxOwn.stab (fun _ => false_stab) ?h0
    (fun l i a' T' W => ∃ (z1 : SlA) (S T0 : Nat → Prop), (∀ k, T' k ↔ T0 k ∨ S k) ∧ (∀ k, S k → ¬ T0 k ∧ k ≠ l ∧ w.heap.size ≤ k ∧ k < W.heap.size) ∧ (¬ T' l → BoxOwn W w.heap.size 62 69 1 w.heap.size (tupsD ((tuplesF sz).take i)) T0) ∧ SlIn W S (dints (nats ((tuplesF sz)[i]?.getD []))) z1 ∧
      a' = { tmps := #[.slice none 0 0, .func (.func gf) #[] lb, .pointer (some ⟨w.heap.size, 0, none⟩), undef, .slice none 0 0, .slice z1.a sz.length z1.cap, .func (.func gf) #[] lb, .slice z1.a sz.length z1.cap, undef, undef, undef, undef, undef], defers := [] }) ?hAx ?assign ?body ?done ?stop
  case h0 => exact ⟨.slice none 0 0, none, G.out.2.2, rfl, (fun _ h => by cases h), (fun k hk => by have := G.out.2.1; have hk' : k = w.heap.size := hk; omega), Chalk.Own.nil _ _ _ _ (fun k hk => absurd hk.1 hk.2.1)⟩
  case hAx =>
    rintro l i a' T' A B ⟨z1, S, T0, h0, h1, h2, h3, h4⟩ hm
    exact ⟨z1, S, T0, h0, fun k hk => ⟨(h1 k hk).1, (h1 k hk).2.1, (h1 k hk).2.2.1, Nat.lt_of_lt_of_le (h1 k hk).2.2.2 hm.size⟩, fun h => (h2 h).kept hm (fun k hk hk' => h (hk ▸ (h0 k).2 (.inl hk'))), h3.agree (hm.agree (fun k hk => ⟨(h1 k hk).2.2.2, (h1 k hk).2.1⟩)), h4⟩
  case stop => intro _ _ _ _ _ _ _ _ _ _ _ _ h; exact h.elim
  case assign =>
    rintro l i v S T1 W K hi ⟨z1, rfl, hz1⟩ hv hS hext hm hI hT1 hlt hK
    have HA := Lib.hid (And.intro hI (And.intro hz1 (And.intro hS hm.size)))
    have HKK := Lib.hid hK
    clear hK hI hz1 hS hv hext hm hT1
    simp only [SlA.val]
    gi_wp2_with fail
    have hS' : ∀ k, S k → ¬ T1 k ∧ k ≠ l ∧ w.heap.size ≤ k ∧ k < W.heap.size := fun k hk => ⟨(HA.out.2.2.1 k hk).2.2.1, (HA.out.2.2.1 k hk).2.2.2, by have := (HA.out.2.2.1 k hk).1; have := G.out.2.1; omega, (HA.out.2.2.1 k hk).2.1⟩
    exact HKK.out _ (fun k => T1 k ∨ S k) _ (Ext.refl _ _ _) (Chalk.Mod.refl _ _) (HA.out.1.take (fun k hk => ⟨(hS' k hk).2.2.1, (hS' k hk).2.2.2, (hS' k hk).1⟩)) ⟨z1, S, T1, fun _ => Iff.rfl, hS', fun _ => HA.out.1, HA.out.2.1, rfl⟩
  case body =>
    rintro l i T1 a' W hi hext hm hI ⟨z1, S, T0, hT', hS, hB, hz1, rfl⟩ hT1 hwl hnl hlp
    obtain ⟨v, r, b1, b2, b3, b4, b5⟩ := hB hnl
    obtain ⟨b, cap, rfl⟩ := b5.form
    have hlen : (tupsD ((tuplesF sz).take i)).length = i := by simp [tupsD]; omega
    rw [hlen] at b1 b5
    have c0 : W.cell? ⟨w.heap.size, 0, none⟩ = some (.slice b i cap) := cell_of_heap b1 rfl
    have hne : (tuplesF sz)[i]? = some (tuplesF sz)[i] := List.getElem?_eq_getElem hi
    rw [hne, Option.getD_some] at hz1
    have htl : ((tuplesF sz)[i]).length = sz.length := ((tuples_mem _ _).1 (List.getElem_mem hi)).1
    have hd : DsAt W (fun k => T1 k ∧ k ≠ w.heap.size ∧ r ≠ some k) [.sl (dints (nats (tuplesF sz)[i]))] [.slice z1.a sz.length z1.cap] := by
      rw [DsAt]
      exact ⟨[.slice z1.a sz.length z1.cap], [], rfl, DAt.sl_iff.2 ⟨z1, by simp [SlA.val, htl], hz1.mono (fun k hk => ⟨(hT' k).2 (.inr hk), fun e => (hS k hk).1 (e ▸ b2), fun e => (hS k hk).1 (b3 k e).1⟩)⟩, by rw [DsAt]⟩
    have hv : Chalk.Own W (fun k => T1 k ∧ k ≠ w.heap.size ∧ r ≠ some k) 69 1 (.slice b i cap) r (tupsD ((tuplesF sz).take i)) := b5.widen (fun k hk => ⟨(hT' k).2 (.inl hk.1), hk.2⟩) (fun k hk hk' => hk'.2.2 hk) (fun k hk => hT1 k hk.1)
    have hTl : ∀ k, T1 k → w.heap.size ≤ k ∧ k < W.heap.size := fun k hk => by
      rcases (hT' k).1 hk with h | h
      · exact b4 k h
      · exact ⟨(hS k h).2.2.1, (hS k h).2.2.2⟩
    have htk : tupsD ((tuplesF sz).take (i + 1)) = tupsD ((tuplesF sz).take i) ++ [.sl (dints (nats (tuplesF sz)[i]))] := by rw [List.take_succ_eq_append_getElem hi]; unfold tupsD; rw [List.map_append]; rfl
    have HF := Lib.hid (And.intro b1 (And.intro ((hT' _).2 (.inl b2)) (And.intro (fun k (hk : r = some k) => (⟨(hT' k).2 (.inl (b3 k hk).1), (b3 k hk).2⟩ : T1 k ∧ k ≠ w.heap.size)) (And.intro hTl (And.intro hv (And.intro hd (And.intro htk hlen)))))))
    have HI0 := Lib.hid (And.intro hi hl)
    have q1 : W.frozen? ⟨w.heap.size, 0, none⟩ = false := frozen_of_heap b1
    have HBl : w.heap.size < W.heap.size := (hTl _ HF.out.2.1).2
    obtain ⟨i0, hi0, hz0, hz1', hz2⟩ := info_parts infoSInt
    clear hd hz1 htk hne
    generalize (tuplesF sz)[i] = tt at HF htl
    clear htl
    clear hext hm hI hT' hS hB hT1 hwl hnl hlp b1 b2 b3 b4 b5 hlen hv hTl hi
    generalize hxs : tupsD ((tuplesF sz).take i) = xs at HF
    refine wpIn_block ?_
    refine wpIn_round_lit (by kernel_rfl) ?_
    go_wp2_with (first | (at_builtin; refine wpList_append_box rfl (H := w.heap.size) (lo := w.heap.size) (T := T1) rfl _ _ 62 rfl 69 i0 _ 1 24 Tryz.underlying62 hi0 hz0 hz1' hz2 rfl (by decide) (.slice b i cap) xs (.sl (dints (nats tt))) [.slice z1.a sz.length z1.cap] 69 62 rfl rfl r HF.out.1 HF.out.2.1 HF.out.2.2.1 HF.out.2.2.2.1 HF.out.2.2.2.2.1 HF.out.2.2.2.2.2.1 rfl (by have := HI0.out; rw [HF.out.2.2.2.2.2.2.2]; unfold maxLen; omega) (by have := HI0.out; rw [HF.out.2.2.2.2.2.2.2]; omega) ?_; rintro ao cp w5 k1 k2 k3 ⟨Tn, n1, n2, n3⟩; rw [HF.out.2.2.2.2.2.2.2] at n1 n2 n3 ⊢; have HE := Lib.hid (And.intro n1 (And.intro n2 n3)); have u0 := frozen_of_heap (i := 0) k1; have u1 : w5.cell? ⟨w.heap.size, 0, none⟩ = some (.slice b i cap) := cell_of_heap k1 rfl; have u2 := (Array.getElem?_eq_some_iff.1 k1).1; clear k1 k2 k3 n1 n2 n3))
    exact ⟨rfl, Tn, HE.out.1, HE.out.2.1, by show BoxOwn _ _ _ _ _ _ (tupsD _) _; rw [HF.out.2.2.2.2.2.2.1]; exact HE.out.2.2⟩
  case done =>
    intro D0 T' W hD0 hDlt hnD hext hm hI hdd
    rw [List.take_length] at hI
    have hbW : Below w.heap.size w W := G.out.1.trans (hm.below (by have := G.out.2.1; omega) (fun k hk => by omega))
    have hlow := hI.low
    obtain ⟨x0, hb0, hx0⟩ := hI.read (by rw [tupsD_widths]; simp)
    have hlen : (tupsD (tuplesF sz)).length = (tuplesF sz).length := by simp [tupsD]
    rw [hlen] at hb0
    have c0 : W.cell? ⟨w.heap.size, 0, none⟩ = some (.slice x0.a (tuplesF sz).length x0.cap) := cell_of_heap hb0 rfl
    have HE := Lib.hid (And.intro hbW (And.intro hx0 (And.intro hdd (And.intro hD0 (And.intro hlow hnD)))))
    clear hI hm hext hdd hbW hx0 hlow hlen hb0
    gi_wp2_with fail
    refine leaves_marks (v := .slice x0.a (tuplesF sz).length x0.cap) [D0] W (fun w => by simp [results, Tryz.results96, go_sem]) (by simp) (fun d hd => by simp at hd; subst hd; exact HE.out.2.2.1) (fun W' hm' => ?_)
    have hs' := hm'.size
    have hD1 := G.out.2.1
    have hD2 := HE.out.2.2.2.1
    refine ⟨x0, rfl, (HE.out.2.1.agree (hm'.agree (fun k hk => ⟨(HE.out.2.2.2.2.1 k hk).2, fun h => by simp at h; exact HE.out.2.2.2.2.2 (h ▸ hk)⟩))).mono (fun k hk => ?_), HE.out.1.trans (hm'.below HE.out.1.size (fun k hk => by simp at hk; omega))⟩
    have := HE.out.2.2.2.2.1 k hk
    exact ⟨this.1, by omega⟩

set_option maxRecDepth 100000 in
theorem collect_any (gf : Nat) (lb : Array Value) (sz : List Nat) (D : Nat → Prop) (w : World) (hent : ∀ args w, (callFunc gf args).run Tryz.prog w = .ok (.enter gf args) w) (hit : IterV Tryz.prog gf lb (tuplesF sz).length 1 (tupE sz) D w) (hD : ∀ k, D k → k < w.heap.size) (hl : (tuplesF sz).length ≤ 1048576) :
    Calls Tryz.prog 43 #[.func (.func gf) #[] lb] w fun e w' => ∃ x0 : SlA, e = .returned (.slice x0.a (tuplesF sz).length x0.cap) ∧ SlIn w' (fun k => w.heap.size ≤ k ∧ k < w'.heap.size) (tupsD (tuplesF sz)) x0 ∧ Below w.heap.size w w' := by
  have HA := Lib.hid (appendSeq_any gf lb sz D w hent hit hD hl)
  clear hit hD hent hl
  go_enter Tryz.func43, Tryz.ntmps43
  go_wp2_with fail
  refine HA.out.mono ?_
  rintro e w1 ⟨x0, rfl, hx0, hb⟩
  have HC := Lib.hid (And.intro hx0 hb)
  clear hx0 hb
  go_wp2_with fail
  go_ret
  exact ⟨x0, rfl, HC.out.1, HC.out.2⟩
end Go.Proofs.YtlfjjokcbeaekaaGreatDoor

/- eval.Insts. -/
namespace Go.Proofs.YtlfjjokcbeaekaaGreatDoor
open Go.RowKit Go.Chalk
def RulBox (W : World) (b : Nat) (r : Rul) (z : RulA) : Prop := W.heap[b]? = some (.cells (z.cells r).toArray 66 (0, 0))
theorem RulBox.below {W W' : World} {b : Nat} {r : Rul} {z : RulA} (h : RulBox W b r z) (hb : Below W.heap.size W W') : RulBox W' b r z := (hb.block _ (Array.getElem?_eq_some_iff.1 h).1).trans h
theorem RulBox.lt {W : World} {b : Nat} {r : Rul} {z : RulA} (h : RulBox W b r z) : b < W.heap.size := (Array.getElem?_eq_some_iff.1 h).1
theorem RulBox.cells {W : World} {b : Nat} {r : Rul} {z : RulA} (h : RulBox W b r z) : W.cell? ⟨b, 0, none⟩ = some (.string ⟨r.name.toArray⟩) ∧ W.cell? ⟨b, 1, none⟩ = some (.bool r.hard) ∧ W.cell? ⟨b, 2, none⟩ = some (.int .i64 r.weight) ∧ W.cell? ⟨b, 3, none⟩ = some (.slice z.each.a r.each.length z.each.cap) ∧
    W.cell? ⟨b, 4, none⟩ = some (.int .i64 r.body.kind) ∧ W.cell? ⟨b, 5, none⟩ = some (.string ⟨r.body.name.toArray⟩) ∧ W.cell? ⟨b, 6, none⟩ = some (.int .i64 r.body.n) ∧ W.cell? ⟨b, 7, none⟩ = some (.slice z.body.t.a r.body.terms.length z.body.t.cap) ∧ W.cell? ⟨b, 8, none⟩ = some (.slice z.body.b.a r.body.binds.length z.body.b.cap) ∧ W.cell? ⟨b, 9, none⟩ = some (.slice z.body.l.a r.body.l.length z.body.l.cap) :=
  ⟨cell_of_heap h rfl, cell_of_heap h rfl, cell_of_heap h rfl, cell_of_heap h rfl, cell_of_heap h rfl, cell_of_heap h rfl, cell_of_heap h rfl, cell_of_heap h rfl, cell_of_heap h rfl, cell_of_heap h rfl⟩

set_option maxRecDepth 100000 in
set_option maxHeartbeats 4000000 in
theorem einsts_any (s : Schl) (x : SchA) (r : Rul) (z : RulA) (w : World) (hI : ItoaAt) (hf : SchFit s) (hrf : RulFit r) (hg : GG w) (hs : SchIn w (· < w.heap.size) s x) (hz : RulIn w (· < w.heap.size) r z) :
    Calls Tryz.prog 19 #[.agg (x.cells s).toArray, .agg (z.cells r).toArray] w fun e w' => ∃ x0 : SlA, e = .returned (.tuple #[.slice x0.a (evInsts s r).1.length x0.cap, .int .i64 (evInsts s r).2]) ∧ SlIn w' (· < w'.heap.size) (tupsD (evInsts s r).1) x0 ∧ Below w.heap.size w w' := by
  have HSC := Lib.hid (fun (W : World) (hW : Below w.heap.size w W) => scheck_any s x W hI (hs.later hW hW.size) hf (hg.below hW))
  have HTR := Lib.hid (fun (W : World) (hW : Below w.heap.size w W) => trule_any r z W (hz.later hW hW.size) hrf (hg.below hW))
  have HMN := Lib.hid (fun (W : World) (hW : Below w.heap.size w W) => many_any s x r.each z.each W hI (hs.later hW hW.size) hf.toSchSmall (hz.each.later hW hW.size) (by have := hrf.len; omega))
  have HTP := Lib.hid (fun (W : World) (hW : Below w.heap.size w W) => etuples_any s x r.each z.each W hI (hs.later hW hW.size) hf.toSchSmall (hz.each.later hW hW.size) (by have := hrf.len; omega))
  have HTL : Hid (¬ 4096 < manyF s r.each → (tuplesF (sizesF s r.each)).length ≤ 1048576) := Lib.hid (fun h => by rw [manyF_tuples (by omega)]; omega)
  have HR : Hid (evInsts s r = if schCheck s ≠ 0 then ([], schCheck s) else if typRule r ≠ 0 then ([], typRule r) else if 4096 < manyF s r.each then ([], 2) else (tuplesF (sizesF s r.each), 0)) := Lib.hid rfl
  have hb0 : Below w.heap.size w ((w.alloc (.cells (x.cells s).toArray 28)).alloc (.cells (z.cells r).toArray 66)) := ((Below.refl _ _).alloc (Nat.le_refl _) _).alloc (by simp) _
  have hs0 : SchBox ((w.alloc (.cells (x.cells s).toArray 28)).alloc (.cells (z.cells r).toArray 66)) w.heap.size s x := by unfold SchBox; rw [heap_get, if_neg (by simp), heap_get, if_pos rfl]
  have hr0 : RulBox ((w.alloc (.cells (x.cells s).toArray 28)).alloc (.cells (z.cells r).toArray 66)) (w.heap.size + 1) r z := by unfold RulBox; rw [heap_get, if_pos (by simp)]
  have HB := Lib.hid (And.intro hb0 (And.intro hs0 hr0))
  have hmf : ∀ (fn : Fn) (first cap : Array Value) (w : World), (Instr.makeFunc fn first cap).run Tryz.prog w = .ok (.func fn first cap) w := fun _ _ _ _ => rfl
  clear hs hz hg hrf hf hI hb0 hs0 hr0
  generalize evInsts s r = res at HR ⊢
  generalize schCheck s = wc at HSC HR
  generalize typRule r = tf at HTR HR
  generalize manyF s r.each = bf at HMN HTL HR
  generalize sizesF s r.each = sz at HTP HTL HR
  obtain ⟨name, hard, weight, each, ⟨kind, fname, n, terms, binds, fl⟩⟩ := r
  obtain ⟨ye, yb⟩ := z
  simp only [RulA.cells, FrmA.cells, SlA.val, SchA.cells, Frm.kind, Frm.name, Frm.n, Frm.terms, Frm.binds, Frm.l] at HB HSC HTR HMN HTP ⊢
  obtain ⟨a0, a1, a2, a3, a4⟩ := HB.out.2.1.cells
  go_enter Tryz.func19, Tryz.ntmps19
  go_wp2_with fail
  refine (HSC.out _ HB.out.1).mono ?_
  rintro e w1 ⟨rfl, hb1⟩
  have HC1 := Lib.hid (And.intro (HB.out.1.trans (hb1.mono HB.out.1.size)) (And.intro (HB.out.2.1.below hb1) (HB.out.2.2.below hb1)))
  clear hb1 a0 a1 a2 a3 a4
  by_cases h1 : wc ≠ 0
  · have d1 : (wc != 0) = true := by simpa using h1
    have HD := Lib.hid h1
    clear h1
    go_wp2_with fail
    go_ret2
    have e1 : res = ([], wc) := by rw [HR.out]; simp [HD.out]
    exact ⟨⟨none, 0, 0, 0⟩, by rw [e1]; rfl, by rw [e1]; exact SlIn.nil (Nat.zero_le _) _ _ _, HC1.out.1⟩
  obtain rfl : wc = 0 := by omega
  clear h1
  obtain ⟨b0, b1, b2, b3, b4, b5, b6, b7, b8, b9⟩ := HC1.out.2.2.cells
  simp only [Frm.kind, Frm.name, Frm.n, Frm.terms, Frm.binds, Frm.l] at b0 b1 b2 b3 b4 b5 b6 b7 b8 b9
  go_wp2_with fail
  refine (HTR.out _ HC1.out.1).mono ?_
  rintro e w2 ⟨rfl, hb2⟩
  have HC2 := Lib.hid (And.intro (HC1.out.1.trans (hb2.mono HC1.out.1.size)) (And.intro (HC1.out.2.1.below hb2) (HC1.out.2.2.below hb2)))
  clear hb2 b0 b1 b2 b3 b4 b5 b6 b7 b8 b9
  by_cases h1 : tf ≠ 0
  · have d1 : (tf != 0) = true := by simpa using h1
    have HD := Lib.hid h1
    clear h1
    go_wp2_with fail
    go_ret2
    have e1 : res = ([], tf) := by rw [HR.out]; simp [HD.out]
    exact ⟨⟨none, 0, 0, 0⟩, by rw [e1]; rfl, by rw [e1]; exact SlIn.nil (Nat.zero_le _) _ _ _, HC2.out.1⟩
  obtain rfl : tf = 0 := by omega
  clear h1
  obtain ⟨a0, a1, a2, a3, a4⟩ := HC2.out.2.1.cells
  obtain ⟨b0, b1, b2, b3, b4, b5, b6, b7, b8, b9⟩ := HC2.out.2.2.cells
  clear b0 b1 b2 b4 b5 b6 b7 b8 b9
  simp only [Frm.kind, Frm.name, Frm.n, Frm.terms, Frm.binds, Frm.l] at b3
  go_wp2_with fail
  refine (HMN.out _ HC2.out.1).mono ?_
  rintro e w3 ⟨rfl, hb3⟩
  have HC3 := Lib.hid (And.intro (HC2.out.1.trans (hb3.mono HC2.out.1.size)) (And.intro (HC2.out.2.1.below hb3) (HC2.out.2.2.below hb3)))
  clear hb3 a0 a1 a2 a3 a4 b3
  by_cases h1 : (4096 : Int) < (bf : Int)
  · have HD := Lib.hid (by omega : 4096 < bf)
    go_wp2_with fail
    go_ret2
    have e1 : res = ([], 2) := by rw [HR.out]; simp [HD.out]
    exact ⟨⟨none, 0, 0, 0⟩, by rw [e1]; rfl, by rw [e1]; exact SlIn.nil (Nat.zero_le _) _ _ _, HC3.out.1⟩
  have h1' : decide ((4096 : Int) < (bf : Int)) = false := by simpa using h1
  have HD := Lib.hid (by omega : ¬ 4096 < bf)
  clear h1
  obtain ⟨a0, a1, a2, a3, a4⟩ := HC3.out.2.1.cells
  obtain ⟨b0, b1, b2, b3, b4, b5, b6, b7, b8, b9⟩ := HC3.out.2.2.cells
  clear b0 b1 b2 b4 b5 b6 b7 b8 b9
  simp only [Frm.kind, Frm.name, Frm.n, Frm.terms, Frm.binds, Frm.l] at b3
  go_wp2_with fail
  refine (HTP.out _ HC3.out.1).mono ?_
  rintro e w4 ⟨sb, lb, rfl, hit, hb4⟩
  have HC4 := Lib.hid (HC3.out.1.trans (hb4.mono HC3.out.1.size))
  have HCL := Lib.hid (collect_any 81 #[.pointer (some ⟨sb, 0, none⟩), .pointer (some ⟨lb, 0, none⟩)] sz _ w4 (enters_of Tryz.func81 (by kernel_rfl) rfl) hit (fun k hk => hk.2) (HTL.out HD.out))
  clear hit hb4 a0 a1 a2 a3 a4 b3
  go_wp2_with fail
  refine HCL.out.mono ?_
  rintro e w5 ⟨x0, rfl, hx0, hb5⟩
  have HC5 := Lib.hid (And.intro (HC4.out.trans (hb5.mono HC4.out.size)) hx0)
  clear hb5 hx0
  go_wp2_with fail
  go_ret2
  have e1 : res = (tuplesF sz, 0) := by rw [HR.out]; simp [HD.out]
  exact ⟨x0, by rw [e1]; rfl, by rw [e1]; exact HC5.out.2.mono (fun k hk => hk.2), HC5.out.1⟩
end Go.Proofs.YtlfjjokcbeaekaaGreatDoor
