/- Joined texts: WNest. -/
import Derived.Test.YtlfjjokcbeaekaaGreatDoorB42
import Derived.Test.YtlfjjokcbeaekaaGreatDoorB08
import Derived.Deep.RegionHeld3

/- EvalNestedQuantifiers: where the listed variables hold what their text lays, the law returns true. (written by tools/gen_nest.py) -/
namespace Go.Proofs.YtlfjjokcbeaekaaGreatDoor
open Go.RowKit Go.Chalk
theorem SlIn.first {w : World} {F : Nat → Prop} {x y : D} {b : Nat} (h : SlIn w F [x, y] ⟨some ⟨b, 0, none⟩, b, 0, 2⟩) : SlIn w F [x] ⟨some ⟨b, 0, none⟩, b, 0, 2⟩ := by
  refine ⟨fun _ => h.at_ (by simp), by simp, h.max, ?_⟩
  have := h.row
  rw [RowAt] at this ⊢
  exact ⟨this.1, by rw [RowAt]; trivial⟩
theorem SlIn.second {w : World} {F : Nat → Prop} {x y : D} {b : Nat} (h : SlIn w F [x, y] ⟨some ⟨b, 0, none⟩, b, 0, 2⟩) (hw : x.width = 2) : SlIn w F [y] ⟨some ⟨b, 2, none⟩, b, 2, 1⟩ := by
  refine ⟨fun _ => ⟨rfl, (h.at_ (by simp)).2⟩, by simp, (by show 1 ≤ maxLen; decide), ?_⟩
  have := h.row
  rw [RowAt, hw] at this
  exact this.2

/-- The plain law, as the walk asks for it. -/
theorem nest_plain (s : Schl) (l : List Plc) (env : List Ev) (f : Frm) (a b : Bnd) (P Q X Y : Bool × Int) (hP : P = evHolds s l env (pairFrm 14 a b f)) (hQ : Q = evHolds s l env (pairFrm 15 a b f)) (hX : X = evHolds s l env (quFrm 14 0 a (quFrm 14 0 b f))) (hY : Y = evHolds s l env (quFrm 15 0 b (quFrm 15 0 a f))) :
    (P.2 ≠ 0 → P.1 = false ∧ Q.1 = false ∧ Q.2 = P.2) ∧ (P.2 = 0 → (X.2 ≠ 0 ∨ Y.2 ≠ 0 → (X.2 = 0 ∨ X.2 = 2) ∧ (Y.2 = 0 ∨ Y.2 = 2)) ∧ (X.2 = 0 → Y.2 = 0 → X.1 = P.1 ∧ Y.1 = Q.1)) := by
  subst hP hQ hX hY
  have h := nested_law s l env f a b
  refine ⟨fun h1 => ?_, fun h1 => ⟨fun h2 => ?_, fun h2 h3 => ?_⟩⟩
  · rw [if_pos h1] at h
    simpa [and_assoc] using h
  · rw [if_neg (by simpa using h1), if_pos h2] at h
    simpa using h
  · rw [if_neg (by simpa using h1), if_neg (by simp [h2, h3])] at h
    simpa using h

set_option maxRecDepth 100000 in
set_option maxHeartbeats 16000000 in
theorem nest_walk (s : Schl) (x : SchA) (l : List Plc) (y : SlA) (env : List Ev) (z : SlA) (f : Frm) (fa : FrmA) (a b : Bnd) (w : World) (hI : ItoaAt) (hf : SchFit s) (hff : FrmFit f) (hfz : f.size ≤ 1800000) (hg : GG w) (hs : SchIn w (· < w.heap.size) s x) (hy : SlIn w (· < w.heap.size) (l.map Plc.toD) y) (hl : l.length ≤ 2000000)
    (hz : SlIn w (· < w.heap.size) (env.map Ev.toD) z) (hel : env.length ≤ 1400000) (hmax : ∀ e ∈ env, e.name.length ≤ 4000000) (hx : FrmIn w (· < w.heap.size) f fa) (han : a.name.length ≤ 4000000) (has : I64 a.sort) (hbn : b.name.length ≤ 4000000) (hbs : I64 b.sort) :
    Calls Tryz.prog 5 #[.agg (x.cells s).toArray, .agg #[.slice y.a l.length y.cap], .slice z.a env.length z.cap, ndV (f, fa), .agg #[.string ⟨a.name.toArray⟩, .int .i64 a.sort], .agg #[.string ⟨b.name.toArray⟩, .int .i64 b.sort]] w fun e w' => e = .returned (.bool true) ∧ Below w.heap.size w w' := by
  have HLV := Lib.hid (fun (W : World) (hW : Below w.heap.size w W) => live_any W hI (hg.below hW))
  have HFW := Lib.hid (fun (q : Frm) (qa : FrmA) (hqf : FrmFit q) (hq : FrmIn w (· < w.heap.size) q qa) (W : World) (hW : Below w.heap.size w W) => rfew9_any s x l y env z q qa W hf.toSchSmall hqf (hs.later hW hW.size) hl (hz.later hW hW.size) (by omega) (hq.later hW hW.size))
  have HHD := Lib.hid (fun (q : Frm) (qa : FrmA) (hqf : FrmFit q) (W : World) (hW : Below w.heap.size w W) (hq : FrmIn W (· < W.heap.size) q qa) => eholds_any s x l y env z q qa W hI hf hqf (hg.below hW) (hs.later hW hW.size) (hy.later hW hW.size) hl (hz.later hW hW.size) (by omega) hmax hq)
  have HXF := Lib.hid (And.intro hx hff)
  have HN1 := Lib.hid (fun (k : Int) => hff.oneF (k := k) (n := 0) (binds := [a, b]) (by omega) (by simp) (fun c hc => by simp at hc; rcases hc with rfl | rfl; exact han; exact hbn))
  have HN2 := Lib.hid (fun (k : Int) => (hff.oneF (k := k) (n := 0) (binds := [b]) (by omega) (by simp) (fun c hc => by simp at hc; subst hc; exact hbn)).oneF (k := k) (n := 0) (binds := [a]) (by simp [oneF, Frm.size, fsizes]; omega) (by simp) (fun c hc => by simp at hc; subst hc; exact han))
  have HN3 := Lib.hid (fun (k : Int) => (hff.oneF (k := k) (n := 0) (binds := [a]) (by omega) (by simp) (fun c hc => by simp at hc; subst hc; exact han)).oneF (k := k) (n := 0) (binds := [b]) (by simp [oneF, Frm.size, fsizes]; omega) (by simp) (fun c hc => by simp at hc; subst hc; exact hbn))
  have HBM := Lib.hid (show (a.name.length ≤ maxLen ∧ I64 a.sort) ∧ b.name.length ≤ maxLen ∧ I64 b.sort from ⟨⟨by unfold maxLen; omega, has⟩, by unfold maxLen; omega, hbs⟩)
  have HPL := Lib.hid (nest_plain s l env f a b _ _ _ _ rfl rfl rfl rfl)
  obtain ⟨W0, hW0⟩ : ∃ W0, W0 = ((((w.alloc (.cells (x.cells s).toArray 28)).alloc (.cells #[.slice y.a l.length y.cap] 31)).alloc (.cells (fa.cells f).toArray 37)).alloc (.cells #[.string ⟨a.name.toArray⟩, .int .i64 a.sort] 47)).alloc (.cells #[.string ⟨b.name.toArray⟩, .int .i64 b.sort] 47) := ⟨_, rfl⟩
  have hb0 : Below w.heap.size w W0 := by rw [hW0]; exact (((((Below.refl _ _).alloc (Nat.le_refl _) _).alloc (by first | (simp; done) | (simp; omega)) _).alloc (by first | (simp; done) | (simp; omega)) _).alloc (by first | (simp; done) | (simp; omega)) _).alloc (by first | (simp; done) | (simp; omega)) _
  have hq0 : SchBox W0 w.heap.size s x := by rw [hW0]; unfold SchBox; rw [heap_get, if_neg (by first | (simp; done) | (simp; omega)), heap_get, if_neg (by first | (simp; done) | (simp; omega)), heap_get, if_neg (by first | (simp; done) | (simp; omega)), heap_get, if_neg (by first | (simp; done) | (simp; omega)), heap_get, if_pos (by first | rfl | (simp; done))]
  have hq1 : W0.heap[w.heap.size + 1]? = some (.cells #[.slice y.a l.length y.cap] 31 (0, 0)) := by rw [hW0]; rw [heap_get, if_neg (by first | (simp; done) | (simp; omega)), heap_get, if_neg (by first | (simp; done) | (simp; omega)), heap_get, if_neg (by first | (simp; done) | (simp; omega)), heap_get, if_pos (by first | rfl | (simp; done))]
  have hq2 : FrmBox W0 (w.heap.size + 1 + 1) f fa := by rw [hW0]; unfold FrmBox; rw [heap_get, if_neg (by first | (simp; done) | (simp; omega)), heap_get, if_neg (by first | (simp; done) | (simp; omega)), heap_get, if_pos (by first | rfl | (simp; done))]
  have hq3 : W0.heap[w.heap.size + 1 + 1 + 1]? = some (.cells #[.string ⟨a.name.toArray⟩, .int .i64 a.sort] 47 (0, 0)) := by rw [hW0]; rw [heap_get, if_neg (by first | (simp; done) | (simp; omega)), heap_get, if_pos (by first | rfl | (simp; done))]
  have hq4 : W0.heap[w.heap.size + 1 + 1 + 1 + 1]? = some (.cells #[.string ⟨b.name.toArray⟩, .int .i64 b.sort] 47 (0, 0)) := by rw [hW0]; rw [heap_get, if_pos (by first | rfl | (simp; done))]
  have HE : Hid (∀ w', Below W0.heap.size W0 w' → Below w.heap.size w w' ∧ (w'.cell? ⟨w.heap.size, 0, none⟩ = some (.slice x.slots.a s.slots.length x.slots.cap) ∧ w'.cell? ⟨w.heap.size, 1, none⟩ = some (.slice x.rooms.a s.rooms.length x.rooms.cap) ∧ w'.cell? ⟨w.heap.size, 2, none⟩ = some (.slice x.people.a s.people.length x.people.cap) ∧ w'.cell? ⟨w.heap.size, 3, none⟩ = some (.slice x.groups.a s.groups.length x.groups.cap) ∧ w'.cell? ⟨w.heap.size, 4, none⟩ = some (.slice x.lessons.a s.lessons.length x.lessons.cap)) ∧ w'.cell? ⟨w.heap.size + 1, 0, none⟩ = some (.slice y.a l.length y.cap) ∧ (w'.cell? ⟨w.heap.size + 1 + 1, 0, none⟩ = some (.int .i64 f.kind) ∧ w'.cell? ⟨w.heap.size + 1 + 1, 1, none⟩ = some (.string ⟨f.name.toArray⟩) ∧ w'.cell? ⟨w.heap.size + 1 + 1, 2, none⟩ = some (.int .i64 f.n) ∧ w'.cell? ⟨w.heap.size + 1 + 1, 3, none⟩ = some (.slice fa.t.a f.terms.length fa.t.cap) ∧ w'.cell? ⟨w.heap.size + 1 + 1, 4, none⟩ = some (.slice fa.b.a f.binds.length fa.b.cap) ∧ w'.cell? ⟨w.heap.size + 1 + 1, 5, none⟩ = some (.slice fa.l.a f.l.length fa.l.cap)) ∧ (w'.cell? ⟨w.heap.size + 1 + 1 + 1, 0, none⟩ = some (.string ⟨a.name.toArray⟩) ∧ w'.cell? ⟨w.heap.size + 1 + 1 + 1, 1, none⟩ = some (.int .i64 a.sort)) ∧ (w'.cell? ⟨w.heap.size + 1 + 1 + 1 + 1, 0, none⟩ = some (.string ⟨b.name.toArray⟩) ∧ w'.cell? ⟨w.heap.size + 1 + 1 + 1 + 1, 1, none⟩ = some (.int .i64 b.sort))) := Lib.hid (fun W hW =>
    ⟨hb0.trans (hW.mono hb0.size), (hq0.below hW).cells, cell_of_heap ((hW.block _ (Array.getElem?_eq_some_iff.1 hq1).1).trans hq1) rfl, (hq2.below hW).cells, ⟨cell_of_heap ((hW.block _ (Array.getElem?_eq_some_iff.1 hq3).1).trans hq3) rfl, cell_of_heap ((hW.block _ (Array.getElem?_eq_some_iff.1 hq3).1).trans hq3) rfl⟩, ⟨cell_of_heap ((hW.block _ (Array.getElem?_eq_some_iff.1 hq4).1).trans hq4) rfl, cell_of_heap ((hW.block _ (Array.getElem?_eq_some_iff.1 hq4).1).trans hq4) rfl⟩⟩)
  have HB0 := Lib.hid hb0
  have HW0 := Lib.hid hW0
  clear hb0 hq0 hq1 hq2 hq3 hq4 hW0 hI hf hff hfz hg hs hy hl hz hel hmax hx has hbs han hbn
  generalize hP : evHolds s l env (pairFrm 14 a b f) = P at HPL
  generalize hQ : evHolds s l env (pairFrm 15 a b f) = Q at HPL
  generalize hX : evHolds s l env (quFrm 14 0 a (quFrm 14 0 b f)) = X at HPL
  generalize hY : evHolds s l env (quFrm 15 0 b (quFrm 15 0 a f)) = Y at HPL
  have HEQ := Lib.hid (show evHolds s l env (oneF 14 0 [a, b] f) = P ∧ evHolds s l env (oneF 15 0 [a, b] f) = Q ∧ evHolds s l env (oneF 14 0 [a] (oneF 14 0 [b] f)) = X ∧ evHolds s l env (oneF 15 0 [b] (oneF 15 0 [a] f)) = Y from And.intro hP (And.intro hQ (And.intro hX hY)))
  clear hP hQ hX hY
  obtain ⟨p, ep⟩ := P
  obtain ⟨q, eq⟩ := Q
  simp only at HPL
  simp only [ndV, SchA.cells, FrmA.cells, SlA.val] at HFW HHD HW0 HE ⊢
  go_enter Tryz.func5, Tryz.ntmps5
  go_wp2_with fail
  rw [← HW0.out]
  refine (HLV.out _ HB0.out).mono ?_
  rintro e w1 ⟨rfl, hb1⟩
  have H1 := Lib.hid hb1
  clear hb1
  obtain ⟨_, ⟨c0, c1, c2, c3, c4⟩, d0, ⟨f0, f1, f2, f3, f4, f5⟩, ⟨g0, g1⟩, ⟨k0, k1⟩⟩ := HE.out w1 H1.out
  go_wp2_with fail
  refine (HFW.out f fa HXF.out.2 HXF.out.1 _ (HE.out _ H1.out).1).mono ?_
  rintro e w2 ⟨⟨b2, rfl⟩, hb2⟩
  have H2 := Lib.hid (H1.out.trans (hb2.mono H1.out.size))
  clear hb2 c0 c1 c2 c3 c4 d0 f0 f1 f2 f3 f4 f5 g0 g1 k0 k1
  obtain ⟨_, ⟨c0, c1, c2, c3, c4⟩, d0, ⟨f0, f1, f2, f3, f4, f5⟩, ⟨g0, g1⟩, ⟨k0, k1⟩⟩ := HE.out w2 H2.out
  by_cases hba : 100 < a.name.length
  · have hd : decide ((a.name.length : Int) > 100) = true := by simp; omega
    cases b2 <;>
    · go_wp2_with fail
      go_ret
      exact ⟨rfl, (HE.out _ H2.out).1⟩
  have hd : decide ((a.name.length : Int) > 100) = false := by simp; omega
  by_cases hbb : 100 < b.name.length
  · have hd' : decide ((b.name.length : Int) > 100) = true := by simp; omega
    cases b2 <;>
    · go_wp2_with fail
      go_ret
      exact ⟨rfl, (HE.out _ H2.out).1⟩
  have hd' : decide ((b.name.length : Int) > 100) = false := by simp; omega
  cases b2
  · go_wp2_with fail
    go_ret
    exact ⟨rfl, (HE.out _ H2.out).1⟩
  go_wp2_with fail
  obtain ⟨W3, hW3⟩ : ∃ W3, W3 = w2.alloc (.cells #[.string ⟨a.name.toArray⟩, .int .i64 a.sort, .string ⟨b.name.toArray⟩, .int .i64 b.sort] 47) := ⟨_, rfl⟩
  have hb3 : Below w2.heap.size w2 W3 := by rw [hW3]; exact (Below.refl _ _).alloc (Nat.le_refl _) _
  have H3 := Lib.hid (H2.out.trans (hb3.mono H2.out.size))
  have HBD : Hid (SlIn W3 (· < W3.heap.size) ([a, b].map Bnd.toD) ⟨some ⟨w2.heap.size, 0, none⟩, w2.heap.size, 0, 2⟩) := Lib.hid (by
    have := SlIn.lit' (w := w2) (e := 47) (n := 2) (lo := 0) (Nat.zero_le _) (DsAt.two_of ((DAt.flat (F := Fr 0 w2) (Bnd.toD a) _ (Bnd.flatT.flat _)).2 ⟨rfl, by show (⟨a.name.toArray⟩ : ByteArray).size ≤ maxLen; rw [bs_size]; exact HBM.out.1.1, I64.wf HBM.out.1.2, trivial⟩) ((DAt.flat (F := Fr 0 w2) (Bnd.toD b) _ (Bnd.flatT.flat _)).2 ⟨rfl, by show (⟨b.name.toArray⟩ : ByteArray).size ≤ maxLen; rw [bs_size]; exact HBM.out.2.1, I64.wf HBM.out.2.2, trivial⟩)) rfl (by decide)
    rw [hW3]; exact this.mono (fun _ h => h.2))
  clear hba hbb hd hd'
  rw [← hW3]
  have HW3 := Lib.hid hW3
  clear hb3 hW3 c0 c1 c2 c3 c4 d0 f0 f1 f2 f3 f4 f5 g0 g1 k0 k1
  have HX : Hid (∀ w', Below W3.heap.size W3 w' → (w'.cell? ⟨w.heap.size, 0, none⟩ = some (.slice x.slots.a s.slots.length x.slots.cap) ∧ w'.cell? ⟨w.heap.size, 1, none⟩ = some (.slice x.rooms.a s.rooms.length x.rooms.cap) ∧ w'.cell? ⟨w.heap.size, 2, none⟩ = some (.slice x.people.a s.people.length x.people.cap) ∧ w'.cell? ⟨w.heap.size, 3, none⟩ = some (.slice x.groups.a s.groups.length x.groups.cap) ∧ w'.cell? ⟨w.heap.size, 4, none⟩ = some (.slice x.lessons.a s.lessons.length x.lessons.cap)) ∧ w'.cell? ⟨w.heap.size + 1, 0, none⟩ = some (.slice y.a l.length y.cap) ∧ (w'.cell? ⟨w.heap.size + 1 + 1, 0, none⟩ = some (.int .i64 f.kind) ∧ w'.cell? ⟨w.heap.size + 1 + 1, 1, none⟩ = some (.string ⟨f.name.toArray⟩) ∧ w'.cell? ⟨w.heap.size + 1 + 1, 2, none⟩ = some (.int .i64 f.n) ∧ w'.cell? ⟨w.heap.size + 1 + 1, 3, none⟩ = some (.slice fa.t.a f.terms.length fa.t.cap) ∧ w'.cell? ⟨w.heap.size + 1 + 1, 4, none⟩ = some (.slice fa.b.a f.binds.length fa.b.cap) ∧ w'.cell? ⟨w.heap.size + 1 + 1, 5, none⟩ = some (.slice fa.l.a f.l.length fa.l.cap))) := Lib.hid (fun w' hW => ⟨(HE.out w' (H3.out.trans (hW.mono H3.out.size))).2.1, (HE.out w' (H3.out.trans (hW.mono H3.out.size))).2.2.1, (HE.out w' (H3.out.trans (hW.mono H3.out.size))).2.2.2.1⟩)
  go_region_held3 (fun w' => (w'.cell? ⟨w.heap.size, 0, none⟩ = some (.slice x.slots.a s.slots.length x.slots.cap) ∧ w'.cell? ⟨w.heap.size, 1, none⟩ = some (.slice x.rooms.a s.rooms.length x.rooms.cap) ∧ w'.cell? ⟨w.heap.size, 2, none⟩ = some (.slice x.people.a s.people.length x.people.cap) ∧ w'.cell? ⟨w.heap.size, 3, none⟩ = some (.slice x.groups.a s.groups.length x.groups.cap) ∧ w'.cell? ⟨w.heap.size, 4, none⟩ = some (.slice x.lessons.a s.lessons.length x.lessons.cap)) ∧ w'.cell? ⟨w.heap.size + 1, 0, none⟩ = some (.slice y.a l.length y.cap) ∧ (w'.cell? ⟨w.heap.size + 1 + 1, 0, none⟩ = some (.int .i64 f.kind) ∧ w'.cell? ⟨w.heap.size + 1 + 1, 1, none⟩ = some (.string ⟨f.name.toArray⟩) ∧ w'.cell? ⟨w.heap.size + 1 + 1, 2, none⟩ = some (.int .i64 f.n) ∧ w'.cell? ⟨w.heap.size + 1 + 1, 3, none⟩ = some (.slice fa.t.a f.terms.length fa.t.cap) ∧ w'.cell? ⟨w.heap.size + 1 + 1, 4, none⟩ = some (.slice fa.b.a f.binds.length fa.b.cap) ∧ w'.cell? ⟨w.heap.size + 1 + 1, 5, none⟩ = some (.slice fa.l.a f.l.length fa.l.cap))) ((refine HX.out _ ?_; first | exact HK5.out | exact HK4.out.1 | exact (Below.refl _ _).drew | fail)) (first
    | (go_at_call 11; refine (HHD.out (oneF 14 0 [a, b] f) u4 (HN1.out 14) _ ((HE.out _ H3.out).1.trans (HK4.out.1.mono (HE.out _ H3.out).1.size)) HK4.out.2).mono ?_; rw [HEQ.out.1]; rintro e w5 ⟨rfl, hbb⟩; have HK5 := Lib.hid (HK4.out.1.trans (hbb.mono HK4.out.1.size)); clear hbb)
    | (go_at_call 12; refine (lone_any 14 0 [a, b] f ⟨some ⟨w2.heap.size, 0, none⟩, w2.heap.size, 0, 2⟩ fa _ 0 (Nat.zero_le _) (i64_of (by decide)) (i64_of (by decide)) (HBD.out.later (Below.refl _ _).drew (Nat.le_refl _)).fr (HXF.out.1.later ((HE.out _ H3.out).1.trans (Below.refl _ _).drew) ((HE.out _ H3.out).1.trans (Below.refl _ _).drew).size).fr).mono ?_; rintro e w4 ⟨u4, rfl, hu, hbb⟩; have HK4 := Lib.hid (And.intro ((Below.refl _ _).drew.trans hbb) hu.all); have eu : ndV ((oneF 14 0 [a, b] f), u4) = .agg #[.int .i64 14, .string ⟨#[]⟩, .int .i64 0, .slice u4.t.a 0 u4.t.cap, .slice u4.b.a 2 u4.b.cap, .slice u4.l.a 1 u4.l.cap] := rfl; rw [eu]; clear hbb hu eu))
  have H5 := Lib.hid (H3.out.trans ((HK5.out.mono (Nat.le_refl _)).mono H3.out.size))
  replace HBD := Lib.hid (HBD.out.later (HK5.out.mono (Nat.le_refl _)) (HK5.out.mono (Nat.le_refl _)).size)
  clear HX HK4 HK5
  go_wp2_with fail
  have HX : Hid (∀ w', Below w5.heap.size w5 w' → (w'.cell? ⟨w.heap.size, 0, none⟩ = some (.slice x.slots.a s.slots.length x.slots.cap) ∧ w'.cell? ⟨w.heap.size, 1, none⟩ = some (.slice x.rooms.a s.rooms.length x.rooms.cap) ∧ w'.cell? ⟨w.heap.size, 2, none⟩ = some (.slice x.people.a s.people.length x.people.cap) ∧ w'.cell? ⟨w.heap.size, 3, none⟩ = some (.slice x.groups.a s.groups.length x.groups.cap) ∧ w'.cell? ⟨w.heap.size, 4, none⟩ = some (.slice x.lessons.a s.lessons.length x.lessons.cap)) ∧ w'.cell? ⟨w.heap.size + 1, 0, none⟩ = some (.slice y.a l.length y.cap) ∧ (w'.cell? ⟨w.heap.size + 1 + 1, 0, none⟩ = some (.int .i64 f.kind) ∧ w'.cell? ⟨w.heap.size + 1 + 1, 1, none⟩ = some (.string ⟨f.name.toArray⟩) ∧ w'.cell? ⟨w.heap.size + 1 + 1, 2, none⟩ = some (.int .i64 f.n) ∧ w'.cell? ⟨w.heap.size + 1 + 1, 3, none⟩ = some (.slice fa.t.a f.terms.length fa.t.cap) ∧ w'.cell? ⟨w.heap.size + 1 + 1, 4, none⟩ = some (.slice fa.b.a f.binds.length fa.b.cap) ∧ w'.cell? ⟨w.heap.size + 1 + 1, 5, none⟩ = some (.slice fa.l.a f.l.length fa.l.cap))) := Lib.hid (fun w' hW => ⟨(HE.out w' (H5.out.trans (hW.mono H5.out.size))).2.1, (HE.out w' (H5.out.trans (hW.mono H5.out.size))).2.2.1, (HE.out w' (H5.out.trans (hW.mono H5.out.size))).2.2.2.1⟩)
  go_region_held3 (fun w' => (w'.cell? ⟨w.heap.size, 0, none⟩ = some (.slice x.slots.a s.slots.length x.slots.cap) ∧ w'.cell? ⟨w.heap.size, 1, none⟩ = some (.slice x.rooms.a s.rooms.length x.rooms.cap) ∧ w'.cell? ⟨w.heap.size, 2, none⟩ = some (.slice x.people.a s.people.length x.people.cap) ∧ w'.cell? ⟨w.heap.size, 3, none⟩ = some (.slice x.groups.a s.groups.length x.groups.cap) ∧ w'.cell? ⟨w.heap.size, 4, none⟩ = some (.slice x.lessons.a s.lessons.length x.lessons.cap)) ∧ w'.cell? ⟨w.heap.size + 1, 0, none⟩ = some (.slice y.a l.length y.cap) ∧ (w'.cell? ⟨w.heap.size + 1 + 1, 0, none⟩ = some (.int .i64 f.kind) ∧ w'.cell? ⟨w.heap.size + 1 + 1, 1, none⟩ = some (.string ⟨f.name.toArray⟩) ∧ w'.cell? ⟨w.heap.size + 1 + 1, 2, none⟩ = some (.int .i64 f.n) ∧ w'.cell? ⟨w.heap.size + 1 + 1, 3, none⟩ = some (.slice fa.t.a f.terms.length fa.t.cap) ∧ w'.cell? ⟨w.heap.size + 1 + 1, 4, none⟩ = some (.slice fa.b.a f.binds.length fa.b.cap) ∧ w'.cell? ⟨w.heap.size + 1 + 1, 5, none⟩ = some (.slice fa.l.a f.l.length fa.l.cap))) ((refine HX.out _ ?_; first | exact HK7.out | exact HK6.out.1 | exact (Below.refl _ _).drew | fail)) (first
    | (go_at_call 11; refine (HHD.out (oneF 15 0 [a, b] f) u6 (HN1.out 15) _ ((HE.out _ H5.out).1.trans (HK6.out.1.mono (HE.out _ H5.out).1.size)) HK6.out.2).mono ?_; rw [HEQ.out.2.1]; rintro e w7 ⟨rfl, hbb⟩; have HK7 := Lib.hid (HK6.out.1.trans (hbb.mono HK6.out.1.size)); clear hbb)
    | (go_at_call 12; refine (lone_any 15 0 [a, b] f ⟨some ⟨w2.heap.size, 0, none⟩, w2.heap.size, 0, 2⟩ fa _ 0 (Nat.zero_le _) (i64_of (by decide)) (i64_of (by decide)) (HBD.out.later (Below.refl _ _).drew (Nat.le_refl _)).fr (HXF.out.1.later ((HE.out _ H5.out).1.trans (Below.refl _ _).drew) ((HE.out _ H5.out).1.trans (Below.refl _ _).drew).size).fr).mono ?_; rintro e w6 ⟨u6, rfl, hu, hbb⟩; have HK6 := Lib.hid (And.intro ((Below.refl _ _).drew.trans hbb) hu.all); have eu : ndV ((oneF 15 0 [a, b] f), u6) = .agg #[.int .i64 15, .string ⟨#[]⟩, .int .i64 0, .slice u6.t.a 0 u6.t.cap, .slice u6.b.a 2 u6.b.cap, .slice u6.l.a 1 u6.l.cap] := rfl; rw [eu]; clear hbb hu eu))
  have H7 := Lib.hid (H5.out.trans ((HK7.out.mono (Nat.le_refl _)).mono H5.out.size))
  replace HBD := Lib.hid (HBD.out.later (HK7.out.mono (Nat.le_refl _)) (HK7.out.mono (Nat.le_refl _)).size)
  clear HX HK6 HK7
  by_cases hep : ep = 0
  rotate_left
  · obtain ⟨hp, hq, he⟩ := HPL.out.1 hep
    subst hp hq he
    clear HPL
    go_wp2_with fail
    go_ret
    exact ⟨by simp, (HE.out _ H7.out).1⟩
  subst hep
  have HP2 := Lib.hid (HPL.out.2 rfl)
  clear HPL
  go_wp2_with fail
  have HX : Hid (∀ w', Below w7.heap.size w7 w' → (w'.cell? ⟨w.heap.size, 0, none⟩ = some (.slice x.slots.a s.slots.length x.slots.cap) ∧ w'.cell? ⟨w.heap.size, 1, none⟩ = some (.slice x.rooms.a s.rooms.length x.rooms.cap) ∧ w'.cell? ⟨w.heap.size, 2, none⟩ = some (.slice x.people.a s.people.length x.people.cap) ∧ w'.cell? ⟨w.heap.size, 3, none⟩ = some (.slice x.groups.a s.groups.length x.groups.cap) ∧ w'.cell? ⟨w.heap.size, 4, none⟩ = some (.slice x.lessons.a s.lessons.length x.lessons.cap)) ∧ w'.cell? ⟨w.heap.size + 1, 0, none⟩ = some (.slice y.a l.length y.cap) ∧ (w'.cell? ⟨w.heap.size + 1 + 1, 0, none⟩ = some (.int .i64 f.kind) ∧ w'.cell? ⟨w.heap.size + 1 + 1, 1, none⟩ = some (.string ⟨f.name.toArray⟩) ∧ w'.cell? ⟨w.heap.size + 1 + 1, 2, none⟩ = some (.int .i64 f.n) ∧ w'.cell? ⟨w.heap.size + 1 + 1, 3, none⟩ = some (.slice fa.t.a f.terms.length fa.t.cap) ∧ w'.cell? ⟨w.heap.size + 1 + 1, 4, none⟩ = some (.slice fa.b.a f.binds.length fa.b.cap) ∧ w'.cell? ⟨w.heap.size + 1 + 1, 5, none⟩ = some (.slice fa.l.a f.l.length fa.l.cap))) := Lib.hid (fun w' hW => ⟨(HE.out w' (H7.out.trans (hW.mono H7.out.size))).2.1, (HE.out w' (H7.out.trans (hW.mono H7.out.size))).2.2.1, (HE.out w' (H7.out.trans (hW.mono H7.out.size))).2.2.2.1⟩)
  have HBA := Lib.hid (SlIn.first HBD.out)
  have HBB := Lib.hid (SlIn.second HBD.out rfl)
  go_region_held3 (fun w' => (w'.cell? ⟨w.heap.size, 0, none⟩ = some (.slice x.slots.a s.slots.length x.slots.cap) ∧ w'.cell? ⟨w.heap.size, 1, none⟩ = some (.slice x.rooms.a s.rooms.length x.rooms.cap) ∧ w'.cell? ⟨w.heap.size, 2, none⟩ = some (.slice x.people.a s.people.length x.people.cap) ∧ w'.cell? ⟨w.heap.size, 3, none⟩ = some (.slice x.groups.a s.groups.length x.groups.cap) ∧ w'.cell? ⟨w.heap.size, 4, none⟩ = some (.slice x.lessons.a s.lessons.length x.lessons.cap)) ∧ w'.cell? ⟨w.heap.size + 1, 0, none⟩ = some (.slice y.a l.length y.cap) ∧ (w'.cell? ⟨w.heap.size + 1 + 1, 0, none⟩ = some (.int .i64 f.kind) ∧ w'.cell? ⟨w.heap.size + 1 + 1, 1, none⟩ = some (.string ⟨f.name.toArray⟩) ∧ w'.cell? ⟨w.heap.size + 1 + 1, 2, none⟩ = some (.int .i64 f.n) ∧ w'.cell? ⟨w.heap.size + 1 + 1, 3, none⟩ = some (.slice fa.t.a f.terms.length fa.t.cap) ∧ w'.cell? ⟨w.heap.size + 1 + 1, 4, none⟩ = some (.slice fa.b.a f.binds.length fa.b.cap) ∧ w'.cell? ⟨w.heap.size + 1 + 1, 5, none⟩ = some (.slice fa.l.a f.l.length fa.l.cap))) ((refine HX.out _ ?_; first | exact HK10.out | exact HK9.out.1 | exact HK8.out.1 | exact (Below.refl _ _).drew | fail)) (first
    | (go_at_call 11; refine (HHD.out (oneF 14 0 [a] (oneF 14 0 [b] f)) u9 (HN2.out 14) _ ((HE.out _ H7.out).1.trans (HK9.out.1.mono (HE.out _ H7.out).1.size)) HK9.out.2).mono ?_; rw [HEQ.out.2.2.1]; rintro e w10 ⟨rfl, hbb⟩; have HK10 := Lib.hid (HK9.out.1.trans (hbb.mono HK9.out.1.size)); clear hbb)
    | (go_at_call 12; refine (lone_any 14 0 [a] (oneF 14 0 [b] f) ⟨some ⟨w2.heap.size, 0, none⟩, w2.heap.size, 0, 2⟩ u8 _ 0 (Nat.zero_le _) (i64_of (by decide)) (i64_of (by decide)) (HBA.out.later HK8.out.1 HK8.out.1.size).fr HK8.out.2.fr).mono ?_; rintro e w9 ⟨u9, rfl, hu, hbb⟩; have HK9 := Lib.hid (And.intro (HK8.out.1.trans (hbb.mono HK8.out.1.size)) hu.all); have eu : ndV ((oneF 14 0 [a] (oneF 14 0 [b] f)), u9) = .agg #[.int .i64 14, .string ⟨#[]⟩, .int .i64 0, .slice u9.t.a 0 u9.t.cap, .slice u9.b.a 1 u9.b.cap, .slice u9.l.a 1 u9.l.cap] := rfl; rw [eu]; clear hbb hu eu)
    | (go_at_call 12; refine (lone_any 14 0 [b] f ⟨some ⟨w2.heap.size, 2, none⟩, w2.heap.size, 2, 1⟩ fa _ 0 (Nat.zero_le _) (i64_of (by decide)) (i64_of (by decide)) (HBB.out.later (Below.refl _ _).drew (Nat.le_refl _)).fr (HXF.out.1.later ((HE.out _ H7.out).1.trans (Below.refl _ _).drew) ((HE.out _ H7.out).1.trans (Below.refl _ _).drew).size).fr).mono ?_; rintro e w8 ⟨u8, rfl, hu, hbb⟩; have HK8 := Lib.hid (And.intro ((Below.refl _ _).drew.trans hbb) hu.all); have eu : ndV ((oneF 14 0 [b] f), u8) = .agg #[.int .i64 14, .string ⟨#[]⟩, .int .i64 0, .slice u8.t.a 0 u8.t.cap, .slice u8.b.a 1 u8.b.cap, .slice u8.l.a 1 u8.l.cap] := rfl; rw [eu]; clear hbb hu eu))
  have H10 := Lib.hid (H7.out.trans ((HK10.out.mono (Nat.le_refl _)).mono H7.out.size))
  replace HBD := Lib.hid (HBD.out.later (HK10.out.mono (Nat.le_refl _)) (HK10.out.mono (Nat.le_refl _)).size)
  clear HX HK8 HK9 HK10 HBA HBB
  go_wp2_with fail
  have HX : Hid (∀ w', Below w10.heap.size w10 w' → (w'.cell? ⟨w.heap.size, 0, none⟩ = some (.slice x.slots.a s.slots.length x.slots.cap) ∧ w'.cell? ⟨w.heap.size, 1, none⟩ = some (.slice x.rooms.a s.rooms.length x.rooms.cap) ∧ w'.cell? ⟨w.heap.size, 2, none⟩ = some (.slice x.people.a s.people.length x.people.cap) ∧ w'.cell? ⟨w.heap.size, 3, none⟩ = some (.slice x.groups.a s.groups.length x.groups.cap) ∧ w'.cell? ⟨w.heap.size, 4, none⟩ = some (.slice x.lessons.a s.lessons.length x.lessons.cap)) ∧ w'.cell? ⟨w.heap.size + 1, 0, none⟩ = some (.slice y.a l.length y.cap) ∧ (w'.cell? ⟨w.heap.size + 1 + 1, 0, none⟩ = some (.int .i64 f.kind) ∧ w'.cell? ⟨w.heap.size + 1 + 1, 1, none⟩ = some (.string ⟨f.name.toArray⟩) ∧ w'.cell? ⟨w.heap.size + 1 + 1, 2, none⟩ = some (.int .i64 f.n) ∧ w'.cell? ⟨w.heap.size + 1 + 1, 3, none⟩ = some (.slice fa.t.a f.terms.length fa.t.cap) ∧ w'.cell? ⟨w.heap.size + 1 + 1, 4, none⟩ = some (.slice fa.b.a f.binds.length fa.b.cap) ∧ w'.cell? ⟨w.heap.size + 1 + 1, 5, none⟩ = some (.slice fa.l.a f.l.length fa.l.cap))) := Lib.hid (fun w' hW => ⟨(HE.out w' (H10.out.trans (hW.mono H10.out.size))).2.1, (HE.out w' (H10.out.trans (hW.mono H10.out.size))).2.2.1, (HE.out w' (H10.out.trans (hW.mono H10.out.size))).2.2.2.1⟩)
  have HBA := Lib.hid (SlIn.first HBD.out)
  have HBB := Lib.hid (SlIn.second HBD.out rfl)
  go_region_held3 (fun w' => (w'.cell? ⟨w.heap.size, 0, none⟩ = some (.slice x.slots.a s.slots.length x.slots.cap) ∧ w'.cell? ⟨w.heap.size, 1, none⟩ = some (.slice x.rooms.a s.rooms.length x.rooms.cap) ∧ w'.cell? ⟨w.heap.size, 2, none⟩ = some (.slice x.people.a s.people.length x.people.cap) ∧ w'.cell? ⟨w.heap.size, 3, none⟩ = some (.slice x.groups.a s.groups.length x.groups.cap) ∧ w'.cell? ⟨w.heap.size, 4, none⟩ = some (.slice x.lessons.a s.lessons.length x.lessons.cap)) ∧ w'.cell? ⟨w.heap.size + 1, 0, none⟩ = some (.slice y.a l.length y.cap) ∧ (w'.cell? ⟨w.heap.size + 1 + 1, 0, none⟩ = some (.int .i64 f.kind) ∧ w'.cell? ⟨w.heap.size + 1 + 1, 1, none⟩ = some (.string ⟨f.name.toArray⟩) ∧ w'.cell? ⟨w.heap.size + 1 + 1, 2, none⟩ = some (.int .i64 f.n) ∧ w'.cell? ⟨w.heap.size + 1 + 1, 3, none⟩ = some (.slice fa.t.a f.terms.length fa.t.cap) ∧ w'.cell? ⟨w.heap.size + 1 + 1, 4, none⟩ = some (.slice fa.b.a f.binds.length fa.b.cap) ∧ w'.cell? ⟨w.heap.size + 1 + 1, 5, none⟩ = some (.slice fa.l.a f.l.length fa.l.cap))) ((refine HX.out _ ?_; first | exact HK13.out | exact HK12.out.1 | exact HK11.out.1 | exact (Below.refl _ _).drew | fail)) (first
    | (go_at_call 11; refine (HHD.out (oneF 15 0 [b] (oneF 15 0 [a] f)) u12 (HN3.out 15) _ ((HE.out _ H10.out).1.trans (HK12.out.1.mono (HE.out _ H10.out).1.size)) HK12.out.2).mono ?_; rw [HEQ.out.2.2.2]; rintro e w13 ⟨rfl, hbb⟩; have HK13 := Lib.hid (HK12.out.1.trans (hbb.mono HK12.out.1.size)); clear hbb)
    | (go_at_call 12; refine (lone_any 15 0 [b] (oneF 15 0 [a] f) ⟨some ⟨w2.heap.size, 2, none⟩, w2.heap.size, 2, 1⟩ u11 _ 0 (Nat.zero_le _) (i64_of (by decide)) (i64_of (by decide)) (HBB.out.later HK11.out.1 HK11.out.1.size).fr HK11.out.2.fr).mono ?_; rintro e w12 ⟨u12, rfl, hu, hbb⟩; have HK12 := Lib.hid (And.intro (HK11.out.1.trans (hbb.mono HK11.out.1.size)) hu.all); have eu : ndV ((oneF 15 0 [b] (oneF 15 0 [a] f)), u12) = .agg #[.int .i64 15, .string ⟨#[]⟩, .int .i64 0, .slice u12.t.a 0 u12.t.cap, .slice u12.b.a 1 u12.b.cap, .slice u12.l.a 1 u12.l.cap] := rfl; rw [eu]; clear hbb hu eu)
    | (go_at_call 12; refine (lone_any 15 0 [a] f ⟨some ⟨w2.heap.size, 0, none⟩, w2.heap.size, 0, 2⟩ fa _ 0 (Nat.zero_le _) (i64_of (by decide)) (i64_of (by decide)) (HBA.out.later (Below.refl _ _).drew (Nat.le_refl _)).fr (HXF.out.1.later ((HE.out _ H10.out).1.trans (Below.refl _ _).drew) ((HE.out _ H10.out).1.trans (Below.refl _ _).drew).size).fr).mono ?_; rintro e w11 ⟨u11, rfl, hu, hbb⟩; have HK11 := Lib.hid (And.intro ((Below.refl _ _).drew.trans hbb) hu.all); have eu : ndV ((oneF 15 0 [a] f), u11) = .agg #[.int .i64 15, .string ⟨#[]⟩, .int .i64 0, .slice u11.t.a 0 u11.t.cap, .slice u11.b.a 1 u11.b.cap, .slice u11.l.a 1 u11.l.cap] := rfl; rw [eu]; clear hbb hu eu))
  have H13 := Lib.hid (H10.out.trans ((HK13.out.mono (Nat.le_refl _)).mono H10.out.size))
  replace HBD := Lib.hid (HBD.out.later (HK13.out.mono (Nat.le_refl _)) (HK13.out.mono (Nat.le_refl _)).size)
  clear HX HK11 HK12 HK13 HBA HBB
  obtain ⟨X, eX⟩ := X
  obtain ⟨Y, eY⟩ := Y
  simp only at HP2 ⊢
  obtain ⟨h1, h2⟩ := HP2.out
  by_cases hex : eX = 0
  · subst hex
    by_cases hey : eY = 0
    · subst hey
      obtain ⟨rfl, rfl⟩ := h2 rfl rfl
      clear h1 h2
      go_wp2_with fail
      go_ret
      exact ⟨by simp, (HE.out _ H13.out).1⟩
    · obtain rfl : eY = 2 := ((h1 (.inr hey)).2.resolve_left hey)
      clear h1 h2
      go_wp2_with fail
      go_ret
      exact ⟨by simp, (HE.out _ H13.out).1⟩
  · obtain ⟨g1, g2⟩ := h1 (.inl hex)
    obtain rfl : eX = 2 := g1.resolve_left hex
    clear h1 h2
    rcases g2 with rfl | rfl <;>
    · go_wp2_with fail
      go_ret
      exact ⟨by simp, (HE.out _ H13.out).1⟩
end Go.Proofs.YtlfjjokcbeaekaaGreatDoor
