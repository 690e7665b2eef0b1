/- Joined texts: WConn. -/
import Derived.Test.YtlfjjokcbeaekaaGreatDoorB42
import Derived.Deep.RegionHeld3

/- EvalConnectives: where the listed variables hold what their text lays, the law returns true. -/
namespace Go.Proofs.YtlfjjokcbeaekaaGreatDoor
open Go.RowKit Go.Chalk

/-- The plain law. -/
theorem conn_plain (s : Schl) (l : List Plc) (env : List Ev) (f g : Frm) (F G N A O I : Bool × Int) (hF : F = evHolds s l env f) (hG : G = evHolds s l env g) (hN : N = evHolds s l env (oneF 10 0 [] f)) (hA : A = evHolds s l env (bothF 11 f g)) (hO : O = evHolds s l env (bothF 12 f g)) (hI : I = evHolds s l env (bothF 13 f g)) :
    (F.2 ≠ 0 → F.1 = false) ∧ (G.2 ≠ 0 → G.1 = false) ∧ (F.2 = 0 → G.2 = 0 → (N.2 = 2 ∨ N = (!F.1, 0)) ∧ ((A = (F.1 && G.1, 0) ∧ O = (F.1 || G.1, 0) ∧ I = (!F.1 || G.1, 0)) ∨ (A = (false, 2) ∧ O = (false, 2) ∧ I = (false, 2)))) := by
  refine ⟨fun h => by rw [hF] at h ⊢; exact evHolds_false h, fun h => by rw [hG] at h ⊢; exact evHolds_false h, fun h1 h2 => ?_⟩
  rw [hF] at h1
  rw [hG] at h2
  have k1 := evHolds_ok.1 h1
  have k2 := evHolds_ok.1 h2
  rw [hF, hG, evHolds_val k1, evHolds_val k2, hN, hA, hO, hI]
  exact ⟨notFrm_or k1, two_or k1 k2⟩

set_option maxRecDepth 100000 in
set_option maxHeartbeats 16000000 in
theorem conn_walk (s : Schl) (x : SchA) (l : List Plc) (y : SlA) (env : List Ev) (z : SlA) (f : Frm) (fa : FrmA) (g : Frm) (ga : FrmA) (w : World) (hI : ItoaAt) (hf : SchFit s) (hff : FrmFit f) (hgf : FrmFit g) (hfg : f.size + g.size ≤ 1800000) (hg : GG w) (hs : SchIn w (· < w.heap.size) s x) (hy : SlIn w (· < w.heap.size) (l.map Plc.toD) y) (hl : l.length ≤ 2000000)
    (hz : SlIn w (· < w.heap.size) (env.map Ev.toD) z) (hel : env.length ≤ 1500000) (hmax : ∀ e ∈ env, e.name.length ≤ 4000000) (hx : FrmIn w (· < w.heap.size) f fa) (hx' : FrmIn w (· < w.heap.size) g ga) :
    Calls Tryz.prog 3 #[.agg (x.cells s).toArray, .agg #[.slice y.a l.length y.cap], .slice z.a env.length z.cap, ndV (f, fa), ndV (g, ga)] w fun e w' => e = .returned (.bool true) ∧ Below w.heap.size w w' := by
  have HLV := Lib.hid (fun (W : World) (hW : Below w.heap.size w W) => live_any W hI (hg.below hW))
  have HFW := Lib.hid (fun (q : Frm) (qa : FrmA) (hqf : FrmFit q) (hq : FrmIn w (· < w.heap.size) q qa) (W : World) (hW : Below w.heap.size w W) => rfew9_any s x l y env z q qa W hf.toSchSmall hqf (hs.later hW hW.size) hl (hz.later hW hW.size) (by omega) (hq.later hW hW.size))
  have HHD := Lib.hid (fun (q : Frm) (qa : FrmA) (hqf : FrmFit q) (W : World) (hW : Below w.heap.size w W) (hq : FrmIn W (· < W.heap.size) q qa) => eholds_any s x l y env z q qa W hI hf hqf (hg.below hW) (hs.later hW hW.size) (hy.later hW hW.size) hl (hz.later hW hW.size) hel hmax hq)
  have HXF := Lib.hid (And.intro hx hff)
  have HXG := Lib.hid (And.intro hx' hgf)
  have HN1 := Lib.hid (hff.oneF (k := 10) (n := 0) (binds := []) (by omega) (by simp) (fun _ h => by cases h))
  have HTW := Lib.hid (fun k => hff.bothF (k := k) hgf (by omega))
  have HPL := Lib.hid (conn_plain s l env f g _ _ _ _ _ _ rfl rfl rfl rfl rfl rfl)
  obtain ⟨W0, hW0⟩ : ∃ W0, W0 = (((w.alloc (.cells (x.cells s).toArray 28)).alloc (.cells #[.slice y.a l.length y.cap] 31)).alloc (.cells (fa.cells f).toArray 37)).alloc (.cells (ga.cells g).toArray 37) := ⟨_, rfl⟩
  have hb0 : Below w.heap.size w W0 := by rw [hW0]; exact ((((Below.refl _ _).alloc (Nat.le_refl _) _).alloc (by simp) _).alloc (by simp; omega) _).alloc (by simp; omega) _
  have hs0 : SchBox W0 w.heap.size s x := by rw [hW0]; unfold SchBox; rw [heap_get, if_neg (by simp; omega), heap_get, if_neg (by simp; omega), heap_get, if_neg (by simp), heap_get, if_pos rfl]
  have hk0 : W0.heap[w.heap.size + 1]? = some (.cells #[.slice y.a l.length y.cap] 31 (0, 0)) := by rw [hW0, heap_get, if_neg (by first | (simp; done) | (simp; omega)), heap_get, if_neg (by first | (simp; done) | (simp; omega)), heap_get, if_pos (by simp)]
  have hf0 : FrmBox W0 (w.heap.size + 1 + 1) f fa := by rw [hW0]; unfold FrmBox; rw [heap_get, if_neg (by simp), heap_get, if_pos (by simp)]
  have hg0 : FrmBox W0 (w.heap.size + 1 + 1 + 1) g ga := by rw [hW0]; unfold FrmBox; rw [heap_get, if_pos (by simp)]
  have HE : Hid (∀ w', Below W0.heap.size W0 w' → Below w.heap.size w w' ∧ (w'.cell? ⟨w.heap.size, 0, none⟩ = some (.slice x.slots.a s.slots.length x.slots.cap) ∧ w'.cell? ⟨w.heap.size, 1, none⟩ = some (.slice x.rooms.a s.rooms.length x.rooms.cap) ∧ w'.cell? ⟨w.heap.size, 2, none⟩ = some (.slice x.people.a s.people.length x.people.cap) ∧ w'.cell? ⟨w.heap.size, 3, none⟩ = some (.slice x.groups.a s.groups.length x.groups.cap) ∧ w'.cell? ⟨w.heap.size, 4, none⟩ = some (.slice x.lessons.a s.lessons.length x.lessons.cap)) ∧ w'.cell? ⟨w.heap.size + 1, 0, none⟩ = some (.slice y.a l.length y.cap) ∧ (w'.cell? ⟨w.heap.size + 1 + 1, 0, none⟩ = some (.int .i64 f.kind) ∧ w'.cell? ⟨w.heap.size + 1 + 1, 1, none⟩ = some (.string ⟨f.name.toArray⟩) ∧ w'.cell? ⟨w.heap.size + 1 + 1, 2, none⟩ = some (.int .i64 f.n) ∧ w'.cell? ⟨w.heap.size + 1 + 1, 3, none⟩ = some (.slice fa.t.a f.terms.length fa.t.cap) ∧ w'.cell? ⟨w.heap.size + 1 + 1, 4, none⟩ = some (.slice fa.b.a f.binds.length fa.b.cap) ∧ w'.cell? ⟨w.heap.size + 1 + 1, 5, none⟩ = some (.slice fa.l.a f.l.length fa.l.cap)) ∧ (w'.cell? ⟨w.heap.size + 1 + 1 + 1, 0, none⟩ = some (.int .i64 g.kind) ∧ w'.cell? ⟨w.heap.size + 1 + 1 + 1, 1, none⟩ = some (.string ⟨g.name.toArray⟩) ∧ w'.cell? ⟨w.heap.size + 1 + 1 + 1, 2, none⟩ = some (.int .i64 g.n) ∧ w'.cell? ⟨w.heap.size + 1 + 1 + 1, 3, none⟩ = some (.slice ga.t.a g.terms.length ga.t.cap) ∧ w'.cell? ⟨w.heap.size + 1 + 1 + 1, 4, none⟩ = some (.slice ga.b.a g.binds.length ga.b.cap) ∧ w'.cell? ⟨w.heap.size + 1 + 1 + 1, 5, none⟩ = some (.slice ga.l.a g.l.length ga.l.cap))) := Lib.hid (fun W hW =>
    ⟨hb0.trans (hW.mono hb0.size), (hs0.below hW).cells, cell_of_heap (WkBox.below hk0 hW) rfl, (hf0.below hW).cells, (hg0.below hW).cells⟩)
  have HB0 := Lib.hid hb0
  have HW0 := Lib.hid hW0
  clear hb0 hs0 hk0 hf0 hg0 hW0 hI hf hff hgf hfg hg hs hy hl hz hel hmax hx hx'
  generalize hF : evHolds s l env f = F at HPL
  generalize hG : evHolds s l env g = G at HPL
  generalize hN : evHolds s l env (oneF 10 0 [] f) = N at HPL
  generalize hA : evHolds s l env (bothF 11 f g) = A at HPL
  generalize hO : evHolds s l env (bothF 12 f g) = O at HPL
  generalize hJ : evHolds s l env (bothF 13 f g) = J at HPL
  have HEQ := Lib.hid (And.intro hF (And.intro hG (And.intro hN (And.intro hA (And.intro hO hJ)))))
  clear hF hG hN hA hO hJ
  simp only [ndV, SchA.cells, FrmA.cells, SlA.val] at HFW HHD HW0 HE ⊢
  go_enter Tryz.func3, Tryz.ntmps3
  go_wp2_with fail
  rw [← HW0.out]
  refine (HLV.out _ HB0.out).mono ?_
  rintro e w1 ⟨rfl, hb1⟩
  have H1 := Lib.hid hb1
  clear hb1
  obtain ⟨_, ⟨c0, c1, c2, c3, c4⟩, d0, ⟨f0, f1, f2, f3, f4, f5⟩, ⟨g0, g1, g2, g3, g4, g5⟩⟩ := HE.out w1 H1.out
  go_wp2_with fail
  refine (HFW.out f fa HXF.out.2 HXF.out.1 _ (HE.out _ H1.out).1).mono ?_
  rintro e w2 ⟨⟨b2, rfl⟩, hb2⟩
  have H2 := Lib.hid (H1.out.trans (hb2.mono H1.out.size))
  clear hb2 c0 c1 c2 c3 c4 d0 f0 f1 f2 f3 f4 f5 g0 g1 g2 g3 g4 g5
  cases b2
  · go_wp2_with fail
    go_ret
    exact ⟨rfl, (HE.out _ H2.out).1⟩
  obtain ⟨_, ⟨c0, c1, c2, c3, c4⟩, d0, ⟨f0, f1, f2, f3, f4, f5⟩, ⟨g0, g1, g2, g3, g4, g5⟩⟩ := HE.out w2 H2.out
  go_wp2_with fail
  refine (HFW.out g ga HXG.out.2 HXG.out.1 _ (HE.out _ H2.out).1).mono ?_
  rintro e w3 ⟨⟨b3, rfl⟩, hb3⟩
  have H3 := Lib.hid (H2.out.trans (hb3.mono H2.out.size))
  clear hb3 c0 c1 c2 c3 c4 d0 f0 f1 f2 f3 f4 f5 g0 g1 g2 g3 g4 g5
  cases b3
  · go_wp2_with fail
    go_ret
    exact ⟨rfl, (HE.out _ H3.out).1⟩
  obtain ⟨_, ⟨c0, c1, c2, c3, c4⟩, d0, ⟨f0, f1, f2, f3, f4, f5⟩, ⟨g0, g1, g2, g3, g4, g5⟩⟩ := HE.out w3 H3.out
  go_wp2_with fail
  refine (HHD.out f fa HXF.out.2 _ (HE.out _ H3.out).1 (HXF.out.1.later (HE.out _ H3.out).1 (HE.out _ H3.out).1.size)).mono ?_
  rw [HEQ.out.1]
  rintro e w4 ⟨rfl, hb4⟩
  have H4 := Lib.hid (H3.out.trans (hb4.mono H3.out.size))
  clear hb4 c0 c1 c2 c3 c4 d0 f0 f1 f2 f3 f4 f5 g0 g1 g2 g3 g4 g5
  obtain ⟨_, ⟨c0, c1, c2, c3, c4⟩, d0, ⟨f0, f1, f2, f3, f4, f5⟩, ⟨g0, g1, g2, g3, g4, g5⟩⟩ := HE.out w4 H4.out
  go_wp2_with fail
  refine (HHD.out g ga HXG.out.2 _ (HE.out _ H4.out).1 (HXG.out.1.later (HE.out _ H4.out).1 (HE.out _ H4.out).1.size)).mono ?_
  rw [HEQ.out.2.1]
  rintro e w5 ⟨rfl, hb5⟩
  have H5 := Lib.hid (H4.out.trans (hb5.mono H4.out.size))
  clear hb5 c0 c1 c2 c3 c4 d0 f0 f1 f2 f3 f4 f5 g0 g1 g2 g3 g4 g5
  obtain ⟨a, ea⟩ := F
  obtain ⟨b, eb⟩ := G
  simp only at HPL ⊢
  by_cases hea : ea = 0
  rotate_left
  · have ha := HPL.out.1 hea
    subst ha
    clear HPL
    cases b <;>
    · go_wp2_with fail
      go_ret
      exact ⟨by simp [hea], (HE.out _ H5.out).1⟩
  subst hea
  by_cases heb : eb = 0
  rotate_left
  · have hb := HPL.out.2.1 heb
    subst hb
    clear HPL
    cases a <;>
    · go_wp2_with fail
      go_ret
      exact ⟨by simp [heb], (HE.out _ H5.out).1⟩
  subst heb
  have HP2 := Lib.hid (HPL.out.2.2 rfl rfl)
  clear HPL
  go_wp2_with fail
  have HX : Hid (∀ w', Below w5.heap.size w5 w' → (w'.cell? ⟨w.heap.size, 0, none⟩ = some (.slice x.slots.a s.slots.length x.slots.cap) ∧ w'.cell? ⟨w.heap.size, 1, none⟩ = some (.slice x.rooms.a s.rooms.length x.rooms.cap) ∧ w'.cell? ⟨w.heap.size, 2, none⟩ = some (.slice x.people.a s.people.length x.people.cap) ∧ w'.cell? ⟨w.heap.size, 3, none⟩ = some (.slice x.groups.a s.groups.length x.groups.cap) ∧ w'.cell? ⟨w.heap.size, 4, none⟩ = some (.slice x.lessons.a s.lessons.length x.lessons.cap)) ∧ w'.cell? ⟨w.heap.size + 1, 0, none⟩ = some (.slice y.a l.length y.cap) ∧ (w'.cell? ⟨w.heap.size + 1 + 1, 0, none⟩ = some (.int .i64 f.kind) ∧ w'.cell? ⟨w.heap.size + 1 + 1, 1, none⟩ = some (.string ⟨f.name.toArray⟩) ∧ w'.cell? ⟨w.heap.size + 1 + 1, 2, none⟩ = some (.int .i64 f.n) ∧ w'.cell? ⟨w.heap.size + 1 + 1, 3, none⟩ = some (.slice fa.t.a f.terms.length fa.t.cap) ∧ w'.cell? ⟨w.heap.size + 1 + 1, 4, none⟩ = some (.slice fa.b.a f.binds.length fa.b.cap) ∧ w'.cell? ⟨w.heap.size + 1 + 1, 5, none⟩ = some (.slice fa.l.a f.l.length fa.l.cap)) ∧ (w'.cell? ⟨w.heap.size + 1 + 1 + 1, 0, none⟩ = some (.int .i64 g.kind) ∧ w'.cell? ⟨w.heap.size + 1 + 1 + 1, 1, none⟩ = some (.string ⟨g.name.toArray⟩) ∧ w'.cell? ⟨w.heap.size + 1 + 1 + 1, 2, none⟩ = some (.int .i64 g.n) ∧ w'.cell? ⟨w.heap.size + 1 + 1 + 1, 3, none⟩ = some (.slice ga.t.a g.terms.length ga.t.cap) ∧ w'.cell? ⟨w.heap.size + 1 + 1 + 1, 4, none⟩ = some (.slice ga.b.a g.binds.length ga.b.cap) ∧ w'.cell? ⟨w.heap.size + 1 + 1 + 1, 5, none⟩ = some (.slice ga.l.a g.l.length ga.l.cap))) := Lib.hid (fun w' hW => (HE.out w' (H5.out.trans (hW.mono H5.out.size))).2)
  
  go_region_held3 (fun w' => (w'.cell? ⟨w.heap.size, 0, none⟩ = some (.slice x.slots.a s.slots.length x.slots.cap) ∧ w'.cell? ⟨w.heap.size, 1, none⟩ = some (.slice x.rooms.a s.rooms.length x.rooms.cap) ∧ w'.cell? ⟨w.heap.size, 2, none⟩ = some (.slice x.people.a s.people.length x.people.cap) ∧ w'.cell? ⟨w.heap.size, 3, none⟩ = some (.slice x.groups.a s.groups.length x.groups.cap) ∧ w'.cell? ⟨w.heap.size, 4, none⟩ = some (.slice x.lessons.a s.lessons.length x.lessons.cap)) ∧ w'.cell? ⟨w.heap.size + 1, 0, none⟩ = some (.slice y.a l.length y.cap) ∧ (w'.cell? ⟨w.heap.size + 1 + 1, 0, none⟩ = some (.int .i64 f.kind) ∧ w'.cell? ⟨w.heap.size + 1 + 1, 1, none⟩ = some (.string ⟨f.name.toArray⟩) ∧ w'.cell? ⟨w.heap.size + 1 + 1, 2, none⟩ = some (.int .i64 f.n) ∧ w'.cell? ⟨w.heap.size + 1 + 1, 3, none⟩ = some (.slice fa.t.a f.terms.length fa.t.cap) ∧ w'.cell? ⟨w.heap.size + 1 + 1, 4, none⟩ = some (.slice fa.b.a f.binds.length fa.b.cap) ∧ w'.cell? ⟨w.heap.size + 1 + 1, 5, none⟩ = some (.slice fa.l.a f.l.length fa.l.cap)) ∧ (w'.cell? ⟨w.heap.size + 1 + 1 + 1, 0, none⟩ = some (.int .i64 g.kind) ∧ w'.cell? ⟨w.heap.size + 1 + 1 + 1, 1, none⟩ = some (.string ⟨g.name.toArray⟩) ∧ w'.cell? ⟨w.heap.size + 1 + 1 + 1, 2, none⟩ = some (.int .i64 g.n) ∧ w'.cell? ⟨w.heap.size + 1 + 1 + 1, 3, none⟩ = some (.slice ga.t.a g.terms.length ga.t.cap) ∧ w'.cell? ⟨w.heap.size + 1 + 1 + 1, 4, none⟩ = some (.slice ga.b.a g.binds.length ga.b.cap) ∧ w'.cell? ⟨w.heap.size + 1 + 1 + 1, 5, none⟩ = some (.slice ga.l.a g.l.length ga.l.cap))) ((refine HX.out _ ?_; first | exact HK7.out | exact HK6.out.1 | exact (Below.refl _ _).drew | fail)) (first
    | (go_at_call 11; refine (HHD.out (oneF 10 0 [] f) u6 HN1.out _ ((HE.out _ H5.out).1.trans (HK6.out.1.mono (HE.out _ H5.out).1.size)) HK6.out.2).mono ?_; rw [HEQ.out.2.2.1]; rintro e w7 ⟨rfl, hbb⟩; have HK7 := Lib.hid (HK6.out.1.trans (hbb.mono HK6.out.1.size)); clear hbb)
    | (go_at_call 12; refine (lone_any 10 0 [] f ⟨none, 0, 0, 0⟩ fa _ 0 (Nat.zero_le _) (i64_of (by decide)) (i64_of (by decide)) (SlIn.nil (Nat.zero_le _) _ _ _) (HXF.out.1.later ((HE.out _ H5.out).1.trans (Below.refl _ _).drew) ((HE.out _ H5.out).1.trans (Below.refl _ _).drew).size).fr).mono ?_; rintro e w6 ⟨u6, rfl, hu, hbb⟩; have HK6 := Lib.hid (And.intro ((Below.refl _ _).drew.trans hbb) hu.all); have eu : ndV ((oneF 10 0 [] f), u6) = .agg #[.int .i64 10, .string ⟨#[]⟩, .int .i64 0, .slice u6.t.a 0 u6.t.cap, .slice u6.b.a 0 u6.b.cap, .slice u6.l.a 1 u6.l.cap] := rfl; rw [eu]; clear hbb hu eu))
  have H7 := Lib.hid (H5.out.trans ((HK7.out.mono (Nat.le_refl _)).mono H5.out.size))
  clear HX HK6 HK7
  obtain ⟨_, ⟨c0, c1, c2, c3, c4⟩, d0, ⟨f0, f1, f2, f3, f4, f5⟩, ⟨g0, g1, g2, g3, g4, g5⟩⟩ := HE.out w7 H7.out
  go_wp2_with fail
  have HX : Hid (∀ w', Below w7.heap.size w7 w' → (w'.cell? ⟨w.heap.size, 0, none⟩ = some (.slice x.slots.a s.slots.length x.slots.cap) ∧ w'.cell? ⟨w.heap.size, 1, none⟩ = some (.slice x.rooms.a s.rooms.length x.rooms.cap) ∧ w'.cell? ⟨w.heap.size, 2, none⟩ = some (.slice x.people.a s.people.length x.people.cap) ∧ w'.cell? ⟨w.heap.size, 3, none⟩ = some (.slice x.groups.a s.groups.length x.groups.cap) ∧ w'.cell? ⟨w.heap.size, 4, none⟩ = some (.slice x.lessons.a s.lessons.length x.lessons.cap)) ∧ w'.cell? ⟨w.heap.size + 1, 0, none⟩ = some (.slice y.a l.length y.cap) ∧ (w'.cell? ⟨w.heap.size + 1 + 1, 0, none⟩ = some (.int .i64 f.kind) ∧ w'.cell? ⟨w.heap.size + 1 + 1, 1, none⟩ = some (.string ⟨f.name.toArray⟩) ∧ w'.cell? ⟨w.heap.size + 1 + 1, 2, none⟩ = some (.int .i64 f.n) ∧ w'.cell? ⟨w.heap.size + 1 + 1, 3, none⟩ = some (.slice fa.t.a f.terms.length fa.t.cap) ∧ w'.cell? ⟨w.heap.size + 1 + 1, 4, none⟩ = some (.slice fa.b.a f.binds.length fa.b.cap) ∧ w'.cell? ⟨w.heap.size + 1 + 1, 5, none⟩ = some (.slice fa.l.a f.l.length fa.l.cap)) ∧ (w'.cell? ⟨w.heap.size + 1 + 1 + 1, 0, none⟩ = some (.int .i64 g.kind) ∧ w'.cell? ⟨w.heap.size + 1 + 1 + 1, 1, none⟩ = some (.string ⟨g.name.toArray⟩) ∧ w'.cell? ⟨w.heap.size + 1 + 1 + 1, 2, none⟩ = some (.int .i64 g.n) ∧ w'.cell? ⟨w.heap.size + 1 + 1 + 1, 3, none⟩ = some (.slice ga.t.a g.terms.length ga.t.cap) ∧ w'.cell? ⟨w.heap.size + 1 + 1 + 1, 4, none⟩ = some (.slice ga.b.a g.binds.length ga.b.cap) ∧ w'.cell? ⟨w.heap.size + 1 + 1 + 1, 5, none⟩ = some (.slice ga.l.a g.l.length ga.l.cap))) := Lib.hid (fun w' hW => (HE.out w' (H7.out.trans (hW.mono H7.out.size))).2)
  clear c0 c1 c2 c3 c4 d0 f0 f1 f2 f3 f4 f5 g0 g1 g2 g3 g4 g5
  go_region_held3 (fun w' => (w'.cell? ⟨w.heap.size, 0, none⟩ = some (.slice x.slots.a s.slots.length x.slots.cap) ∧ w'.cell? ⟨w.heap.size, 1, none⟩ = some (.slice x.rooms.a s.rooms.length x.rooms.cap) ∧ w'.cell? ⟨w.heap.size, 2, none⟩ = some (.slice x.people.a s.people.length x.people.cap) ∧ w'.cell? ⟨w.heap.size, 3, none⟩ = some (.slice x.groups.a s.groups.length x.groups.cap) ∧ w'.cell? ⟨w.heap.size, 4, none⟩ = some (.slice x.lessons.a s.lessons.length x.lessons.cap)) ∧ w'.cell? ⟨w.heap.size + 1, 0, none⟩ = some (.slice y.a l.length y.cap) ∧ (w'.cell? ⟨w.heap.size + 1 + 1, 0, none⟩ = some (.int .i64 f.kind) ∧ w'.cell? ⟨w.heap.size + 1 + 1, 1, none⟩ = some (.string ⟨f.name.toArray⟩) ∧ w'.cell? ⟨w.heap.size + 1 + 1, 2, none⟩ = some (.int .i64 f.n) ∧ w'.cell? ⟨w.heap.size + 1 + 1, 3, none⟩ = some (.slice fa.t.a f.terms.length fa.t.cap) ∧ w'.cell? ⟨w.heap.size + 1 + 1, 4, none⟩ = some (.slice fa.b.a f.binds.length fa.b.cap) ∧ w'.cell? ⟨w.heap.size + 1 + 1, 5, none⟩ = some (.slice fa.l.a f.l.length fa.l.cap)) ∧ (w'.cell? ⟨w.heap.size + 1 + 1 + 1, 0, none⟩ = some (.int .i64 g.kind) ∧ w'.cell? ⟨w.heap.size + 1 + 1 + 1, 1, none⟩ = some (.string ⟨g.name.toArray⟩) ∧ w'.cell? ⟨w.heap.size + 1 + 1 + 1, 2, none⟩ = some (.int .i64 g.n) ∧ w'.cell? ⟨w.heap.size + 1 + 1 + 1, 3, none⟩ = some (.slice ga.t.a g.terms.length ga.t.cap) ∧ w'.cell? ⟨w.heap.size + 1 + 1 + 1, 4, none⟩ = some (.slice ga.b.a g.binds.length ga.b.cap) ∧ w'.cell? ⟨w.heap.size + 1 + 1 + 1, 5, none⟩ = some (.slice ga.l.a g.l.length ga.l.cap))) ((refine HX.out _ ?_; first | exact HK9.out | exact HK8.out.1 | exact (Below.refl _ _).drew | fail)) (first
    | (go_at_call 11; refine (HHD.out (bothF 11 f g) u8 (HTW.out 11) _ ((HE.out _ H7.out).1.trans (HK8.out.1.mono (HE.out _ H7.out).1.size)) HK8.out.2).mono ?_; rw [HEQ.out.2.2.2.1]; rintro e w9 ⟨rfl, hbb⟩; have HK9 := Lib.hid (HK8.out.1.trans (hbb.mono HK8.out.1.size)); clear hbb)
    | (go_at_call 13; refine (lboth_any 11 f g fa ga _ 0 (Nat.zero_le _) (i64_of (by decide)) (HXF.out.1.later ((HE.out _ H7.out).1.trans (Below.refl _ _).drew) ((HE.out _ H7.out).1.trans (Below.refl _ _).drew).size).fr (HXG.out.1.later ((HE.out _ H7.out).1.trans (Below.refl _ _).drew) ((HE.out _ H7.out).1.trans (Below.refl _ _).drew).size).fr).mono ?_; rintro e w8 ⟨u8, rfl, hu, hbb⟩; have HK8 := Lib.hid (And.intro ((Below.refl _ _).drew.trans hbb) hu.all); have eu : ndV ((bothF 11 f g), u8) = .agg #[.int .i64 11, .string ⟨#[]⟩, .int .i64 0, .slice u8.t.a 0 u8.t.cap, .slice u8.b.a 0 u8.b.cap, .slice u8.l.a 2 u8.l.cap] := rfl; rw [eu]; clear hbb hu eu))
  have H9 := Lib.hid (H7.out.trans ((HK9.out.mono (Nat.le_refl _)).mono H7.out.size))
  clear HX HK8 HK9
  obtain ⟨_, ⟨c0, c1, c2, c3, c4⟩, d0, ⟨f0, f1, f2, f3, f4, f5⟩, ⟨g0, g1, g2, g3, g4, g5⟩⟩ := HE.out w9 H9.out
  go_wp2_with fail
  have HX : Hid (∀ w', Below w9.heap.size w9 w' → (w'.cell? ⟨w.heap.size, 0, none⟩ = some (.slice x.slots.a s.slots.length x.slots.cap) ∧ w'.cell? ⟨w.heap.size, 1, none⟩ = some (.slice x.rooms.a s.rooms.length x.rooms.cap) ∧ w'.cell? ⟨w.heap.size, 2, none⟩ = some (.slice x.people.a s.people.length x.people.cap) ∧ w'.cell? ⟨w.heap.size, 3, none⟩ = some (.slice x.groups.a s.groups.length x.groups.cap) ∧ w'.cell? ⟨w.heap.size, 4, none⟩ = some (.slice x.lessons.a s.lessons.length x.lessons.cap)) ∧ w'.cell? ⟨w.heap.size + 1, 0, none⟩ = some (.slice y.a l.length y.cap) ∧ (w'.cell? ⟨w.heap.size + 1 + 1, 0, none⟩ = some (.int .i64 f.kind) ∧ w'.cell? ⟨w.heap.size + 1 + 1, 1, none⟩ = some (.string ⟨f.name.toArray⟩) ∧ w'.cell? ⟨w.heap.size + 1 + 1, 2, none⟩ = some (.int .i64 f.n) ∧ w'.cell? ⟨w.heap.size + 1 + 1, 3, none⟩ = some (.slice fa.t.a f.terms.length fa.t.cap) ∧ w'.cell? ⟨w.heap.size + 1 + 1, 4, none⟩ = some (.slice fa.b.a f.binds.length fa.b.cap) ∧ w'.cell? ⟨w.heap.size + 1 + 1, 5, none⟩ = some (.slice fa.l.a f.l.length fa.l.cap)) ∧ (w'.cell? ⟨w.heap.size + 1 + 1 + 1, 0, none⟩ = some (.int .i64 g.kind) ∧ w'.cell? ⟨w.heap.size + 1 + 1 + 1, 1, none⟩ = some (.string ⟨g.name.toArray⟩) ∧ w'.cell? ⟨w.heap.size + 1 + 1 + 1, 2, none⟩ = some (.int .i64 g.n) ∧ w'.cell? ⟨w.heap.size + 1 + 1 + 1, 3, none⟩ = some (.slice ga.t.a g.terms.length ga.t.cap) ∧ w'.cell? ⟨w.heap.size + 1 + 1 + 1, 4, none⟩ = some (.slice ga.b.a g.binds.length ga.b.cap) ∧ w'.cell? ⟨w.heap.size + 1 + 1 + 1, 5, none⟩ = some (.slice ga.l.a g.l.length ga.l.cap))) := Lib.hid (fun w' hW => (HE.out w' (H9.out.trans (hW.mono H9.out.size))).2)
  clear c0 c1 c2 c3 c4 d0 f0 f1 f2 f3 f4 f5 g0 g1 g2 g3 g4 g5
  go_region_held3 (fun w' => (w'.cell? ⟨w.heap.size, 0, none⟩ = some (.slice x.slots.a s.slots.length x.slots.cap) ∧ w'.cell? ⟨w.heap.size, 1, none⟩ = some (.slice x.rooms.a s.rooms.length x.rooms.cap) ∧ w'.cell? ⟨w.heap.size, 2, none⟩ = some (.slice x.people.a s.people.length x.people.cap) ∧ w'.cell? ⟨w.heap.size, 3, none⟩ = some (.slice x.groups.a s.groups.length x.groups.cap) ∧ w'.cell? ⟨w.heap.size, 4, none⟩ = some (.slice x.lessons.a s.lessons.length x.lessons.cap)) ∧ w'.cell? ⟨w.heap.size + 1, 0, none⟩ = some (.slice y.a l.length y.cap) ∧ (w'.cell? ⟨w.heap.size + 1 + 1, 0, none⟩ = some (.int .i64 f.kind) ∧ w'.cell? ⟨w.heap.size + 1 + 1, 1, none⟩ = some (.string ⟨f.name.toArray⟩) ∧ w'.cell? ⟨w.heap.size + 1 + 1, 2, none⟩ = some (.int .i64 f.n) ∧ w'.cell? ⟨w.heap.size + 1 + 1, 3, none⟩ = some (.slice fa.t.a f.terms.length fa.t.cap) ∧ w'.cell? ⟨w.heap.size + 1 + 1, 4, none⟩ = some (.slice fa.b.a f.binds.length fa.b.cap) ∧ w'.cell? ⟨w.heap.size + 1 + 1, 5, none⟩ = some (.slice fa.l.a f.l.length fa.l.cap)) ∧ (w'.cell? ⟨w.heap.size + 1 + 1 + 1, 0, none⟩ = some (.int .i64 g.kind) ∧ w'.cell? ⟨w.heap.size + 1 + 1 + 1, 1, none⟩ = some (.string ⟨g.name.toArray⟩) ∧ w'.cell? ⟨w.heap.size + 1 + 1 + 1, 2, none⟩ = some (.int .i64 g.n) ∧ w'.cell? ⟨w.heap.size + 1 + 1 + 1, 3, none⟩ = some (.slice ga.t.a g.terms.length ga.t.cap) ∧ w'.cell? ⟨w.heap.size + 1 + 1 + 1, 4, none⟩ = some (.slice ga.b.a g.binds.length ga.b.cap) ∧ w'.cell? ⟨w.heap.size + 1 + 1 + 1, 5, none⟩ = some (.slice ga.l.a g.l.length ga.l.cap))) ((refine HX.out _ ?_; first | exact HK11.out | exact HK10.out.1 | exact (Below.refl _ _).drew | fail)) (first
    | (go_at_call 11; refine (HHD.out (bothF 12 f g) u10 (HTW.out 12) _ ((HE.out _ H9.out).1.trans (HK10.out.1.mono (HE.out _ H9.out).1.size)) HK10.out.2).mono ?_; rw [HEQ.out.2.2.2.2.1]; rintro e w11 ⟨rfl, hbb⟩; have HK11 := Lib.hid (HK10.out.1.trans (hbb.mono HK10.out.1.size)); clear hbb)
    | (go_at_call 13; refine (lboth_any 12 f g fa ga _ 0 (Nat.zero_le _) (i64_of (by decide)) (HXF.out.1.later ((HE.out _ H9.out).1.trans (Below.refl _ _).drew) ((HE.out _ H9.out).1.trans (Below.refl _ _).drew).size).fr (HXG.out.1.later ((HE.out _ H9.out).1.trans (Below.refl _ _).drew) ((HE.out _ H9.out).1.trans (Below.refl _ _).drew).size).fr).mono ?_; rintro e w10 ⟨u10, rfl, hu, hbb⟩; have HK10 := Lib.hid (And.intro ((Below.refl _ _).drew.trans hbb) hu.all); have eu : ndV ((bothF 12 f g), u10) = .agg #[.int .i64 12, .string ⟨#[]⟩, .int .i64 0, .slice u10.t.a 0 u10.t.cap, .slice u10.b.a 0 u10.b.cap, .slice u10.l.a 2 u10.l.cap] := rfl; rw [eu]; clear hbb hu eu))
  have H11 := Lib.hid (H9.out.trans ((HK11.out.mono (Nat.le_refl _)).mono H9.out.size))
  clear HX HK10 HK11
  obtain ⟨_, ⟨c0, c1, c2, c3, c4⟩, d0, ⟨f0, f1, f2, f3, f4, f5⟩, ⟨g0, g1, g2, g3, g4, g5⟩⟩ := HE.out w11 H11.out
  go_wp2_with fail
  have HX : Hid (∀ w', Below w11.heap.size w11 w' → (w'.cell? ⟨w.heap.size, 0, none⟩ = some (.slice x.slots.a s.slots.length x.slots.cap) ∧ w'.cell? ⟨w.heap.size, 1, none⟩ = some (.slice x.rooms.a s.rooms.length x.rooms.cap) ∧ w'.cell? ⟨w.heap.size, 2, none⟩ = some (.slice x.people.a s.people.length x.people.cap) ∧ w'.cell? ⟨w.heap.size, 3, none⟩ = some (.slice x.groups.a s.groups.length x.groups.cap) ∧ w'.cell? ⟨w.heap.size, 4, none⟩ = some (.slice x.lessons.a s.lessons.length x.lessons.cap)) ∧ w'.cell? ⟨w.heap.size + 1, 0, none⟩ = some (.slice y.a l.length y.cap) ∧ (w'.cell? ⟨w.heap.size + 1 + 1, 0, none⟩ = some (.int .i64 f.kind) ∧ w'.cell? ⟨w.heap.size + 1 + 1, 1, none⟩ = some (.string ⟨f.name.toArray⟩) ∧ w'.cell? ⟨w.heap.size + 1 + 1, 2, none⟩ = some (.int .i64 f.n) ∧ w'.cell? ⟨w.heap.size + 1 + 1, 3, none⟩ = some (.slice fa.t.a f.terms.length fa.t.cap) ∧ w'.cell? ⟨w.heap.size + 1 + 1, 4, none⟩ = some (.slice fa.b.a f.binds.length fa.b.cap) ∧ w'.cell? ⟨w.heap.size + 1 + 1, 5, none⟩ = some (.slice fa.l.a f.l.length fa.l.cap)) ∧ (w'.cell? ⟨w.heap.size + 1 + 1 + 1, 0, none⟩ = some (.int .i64 g.kind) ∧ w'.cell? ⟨w.heap.size + 1 + 1 + 1, 1, none⟩ = some (.string ⟨g.name.toArray⟩) ∧ w'.cell? ⟨w.heap.size + 1 + 1 + 1, 2, none⟩ = some (.int .i64 g.n) ∧ w'.cell? ⟨w.heap.size + 1 + 1 + 1, 3, none⟩ = some (.slice ga.t.a g.terms.length ga.t.cap) ∧ w'.cell? ⟨w.heap.size + 1 + 1 + 1, 4, none⟩ = some (.slice ga.b.a g.binds.length ga.b.cap) ∧ w'.cell? ⟨w.heap.size + 1 + 1 + 1, 5, none⟩ = some (.slice ga.l.a g.l.length ga.l.cap))) := Lib.hid (fun w' hW => (HE.out w' (H11.out.trans (hW.mono H11.out.size))).2)
  clear c0 c1 c2 c3 c4 d0 f0 f1 f2 f3 f4 f5 g0 g1 g2 g3 g4 g5
  go_region_held3 (fun w' => (w'.cell? ⟨w.heap.size, 0, none⟩ = some (.slice x.slots.a s.slots.length x.slots.cap) ∧ w'.cell? ⟨w.heap.size, 1, none⟩ = some (.slice x.rooms.a s.rooms.length x.rooms.cap) ∧ w'.cell? ⟨w.heap.size, 2, none⟩ = some (.slice x.people.a s.people.length x.people.cap) ∧ w'.cell? ⟨w.heap.size, 3, none⟩ = some (.slice x.groups.a s.groups.length x.groups.cap) ∧ w'.cell? ⟨w.heap.size, 4, none⟩ = some (.slice x.lessons.a s.lessons.length x.lessons.cap)) ∧ w'.cell? ⟨w.heap.size + 1, 0, none⟩ = some (.slice y.a l.length y.cap) ∧ (w'.cell? ⟨w.heap.size + 1 + 1, 0, none⟩ = some (.int .i64 f.kind) ∧ w'.cell? ⟨w.heap.size + 1 + 1, 1, none⟩ = some (.string ⟨f.name.toArray⟩) ∧ w'.cell? ⟨w.heap.size + 1 + 1, 2, none⟩ = some (.int .i64 f.n) ∧ w'.cell? ⟨w.heap.size + 1 + 1, 3, none⟩ = some (.slice fa.t.a f.terms.length fa.t.cap) ∧ w'.cell? ⟨w.heap.size + 1 + 1, 4, none⟩ = some (.slice fa.b.a f.binds.length fa.b.cap) ∧ w'.cell? ⟨w.heap.size + 1 + 1, 5, none⟩ = some (.slice fa.l.a f.l.length fa.l.cap)) ∧ (w'.cell? ⟨w.heap.size + 1 + 1 + 1, 0, none⟩ = some (.int .i64 g.kind) ∧ w'.cell? ⟨w.heap.size + 1 + 1 + 1, 1, none⟩ = some (.string ⟨g.name.toArray⟩) ∧ w'.cell? ⟨w.heap.size + 1 + 1 + 1, 2, none⟩ = some (.int .i64 g.n) ∧ w'.cell? ⟨w.heap.size + 1 + 1 + 1, 3, none⟩ = some (.slice ga.t.a g.terms.length ga.t.cap) ∧ w'.cell? ⟨w.heap.size + 1 + 1 + 1, 4, none⟩ = some (.slice ga.b.a g.binds.length ga.b.cap) ∧ w'.cell? ⟨w.heap.size + 1 + 1 + 1, 5, none⟩ = some (.slice ga.l.a g.l.length ga.l.cap))) ((refine HX.out _ ?_; first | exact HK13.out | exact HK12.out.1 | exact (Below.refl _ _).drew | fail)) (first
    | (go_at_call 11; refine (HHD.out (bothF 13 f g) u12 (HTW.out 13) _ ((HE.out _ H11.out).1.trans (HK12.out.1.mono (HE.out _ H11.out).1.size)) HK12.out.2).mono ?_; rw [HEQ.out.2.2.2.2.2]; rintro e w13 ⟨rfl, hbb⟩; have HK13 := Lib.hid (HK12.out.1.trans (hbb.mono HK12.out.1.size)); clear hbb)
    | (go_at_call 13; refine (lboth_any 13 f g fa ga _ 0 (Nat.zero_le _) (i64_of (by decide)) (HXF.out.1.later ((HE.out _ H11.out).1.trans (Below.refl _ _).drew) ((HE.out _ H11.out).1.trans (Below.refl _ _).drew).size).fr (HXG.out.1.later ((HE.out _ H11.out).1.trans (Below.refl _ _).drew) ((HE.out _ H11.out).1.trans (Below.refl _ _).drew).size).fr).mono ?_; rintro e w12 ⟨u12, rfl, hu, hbb⟩; have HK12 := Lib.hid (And.intro ((Below.refl _ _).drew.trans hbb) hu.all); have eu : ndV ((bothF 13 f g), u12) = .agg #[.int .i64 13, .string ⟨#[]⟩, .int .i64 0, .slice u12.t.a 0 u12.t.cap, .slice u12.b.a 0 u12.b.cap, .slice u12.l.a 2 u12.l.cap] := rfl; rw [eu]; clear hbb hu eu))
  have H13 := Lib.hid (H11.out.trans ((HK13.out.mono (Nat.le_refl _)).mono H11.out.size))
  clear HX HK12 HK13
  obtain ⟨_, ⟨c0, c1, c2, c3, c4⟩, d0, ⟨f0, f1, f2, f3, f4, f5⟩, ⟨g0, g1, g2, g3, g4, g5⟩⟩ := HE.out w13 H13.out
  obtain ⟨hn, hc⟩ := HP2.out
  obtain ⟨nb, ne⟩ := N
  have hn' : ne = 2 ∨ (nb = !a ∧ ne = 0) := by simpa using hn
  rcases hc with ⟨rfl, rfl, rfl⟩ | ⟨rfl, rfl, rfl⟩ <;> rcases hn' with rfl | ⟨rfl, rfl⟩ <;> clear HP2 hn HEQ <;> cases a <;> cases b <;> simp only [Bool.not_true, Bool.not_false, Bool.and_true, Bool.and_false, Bool.or_true, Bool.or_false]
  all_goals
    go_wp2_with fail
    go_ret
    exact ⟨by simp, (HE.out _ H13.out).1⟩
end Go.Proofs.YtlfjjokcbeaekaaGreatDoor
