/- Joined texts: WQuant. -/
import Derived.Test.YtlfjjokcbeaekaaGreatDoorB42
import Derived.Test.YtlfjjokcbeaekaaGreatDoorLQuant1
import Derived.Test.YtlfjjokcbeaekaaGreatDoorB20
import Derived.Deep.RegionHeld3

/- EvalQuantifiers: where the listed variables hold what their text lays, the law returns true. (written by tools/gen_quant.py) -/
namespace Go.Proofs.YtlfjjokcbeaekaaGreatDoor
open Go.RowKit Go.Chalk

set_option maxRecDepth 100000 in
set_option maxHeartbeats 16000000 in
theorem quant_walk (s : Schl) (x : SchA) (l : List Plc) (y : SlA) (env : List Ev) (z : SlA) (f : Frm) (fa : FrmA) (b : Bnd) (n : Int) (w : World) (hI : ItoaAt) (hf : SchFit s) (hff : FrmFit f) (hfz : f.size ≤ 1800000) (hg : GG w) (hs : SchIn w (· < w.heap.size) s x) (hy : SlIn w (· < w.heap.size) (l.map Plc.toD) y) (hl : l.length ≤ 2000000)
    (hz : SlIn w (· < w.heap.size) (env.map Ev.toD) z) (hel : env.length ≤ 1400000) (hmax : ∀ e ∈ env, e.name.length ≤ 4000000) (hx : FrmIn w (· < w.heap.size) f fa) (hbn : b.name.length ≤ 4000000) (hbs : I64 b.sort) (hn : I64 n) :
    Calls Tryz.prog 4 #[.agg (x.cells s).toArray, .agg #[.slice y.a l.length y.cap], .slice z.a env.length z.cap, ndV (f, fa), .agg #[.string ⟨b.name.toArray⟩, .int .i64 b.sort], .int .i64 n] w fun e w' => e = .returned (.bool true) ∧ Below w.heap.size w w' := by
  have HLV := Lib.hid (fun (W : World) (hW : Below w.heap.size w W) => live_any W hI (hg.below hW))
  have HFW := Lib.hid (fun (q : Frm) (qa : FrmA) (hqf : FrmFit q) (hq : FrmIn w (· < w.heap.size) q qa) (W : World) (hW : Below w.heap.size w W) => rfew9_any s x l y env z q qa W hf.toSchSmall hqf (hs.later hW hW.size) hl (hz.later hW hW.size) (by omega) (hq.later hW hW.size))
  have HHD := Lib.hid (fun (q : Frm) (qa : FrmA) (hqf : FrmFit q) (W : World) (hW : Below w.heap.size w W) (hq : FrmIn W (· < W.heap.size) q qa) => eholds_any s x l y env z q qa W hI hf hqf (hg.below hW) (hs.later hW hW.size) (hy.later hW hW.size) hl (hz.later hW hW.size) (by omega) hmax hq)
  have HHM := Lib.hid (fun (i : Nat) (za : SlA) (W : World) (hW : Below w.heap.size w W) (hza : SlIn W (· < W.heap.size) ((env ++ [(⟨b.name, b.sort, (i : Int)⟩ : Ev)]).map Ev.toD) za) => eholds_any s x l y (env ++ [(⟨b.name, b.sort, (i : Int)⟩ : Ev)]) za f fa W hI hf hff (hg.below hW) (hs.later hW hW.size) (hy.later hW hW.size) hl hza (by simp; omega) (fun e he => by rcases List.mem_append.1 he with h | h; exact hmax e h; simp at h; subst h; exact hbn) (hx.later hW hW.size))
  have HCT := Lib.hid (fun (W : World) (hW : Below w.heap.size w W) => count_any s x b.sort W hI (hs.later hW hW.size) hf.toSchSmall)
  have HXF := Lib.hid (And.intro hx hff)
  have HZ := Lib.hid (And.intro hz hel)
  have HI64 := Lib.hid (And.intro hn hbs)
  have HN1 := Lib.hid (fun k (m : Int) => hff.oneF (k := k) (n := m) (binds := [b]) (by omega) (by simp) (fun c hc => by simp at hc; subst hc; exact hbn))
  have HBM := Lib.hid (show b.name.length ≤ maxLen by unfold maxLen; omega)
  have HPL := Lib.hid (quant_plain s l env f b n _ _ _ _ rfl rfl rfl rfl)
  have HCL := Lib.hid (count_le hf.toSchSmall b.sort)
  obtain ⟨i0, hi, hz0, hz1, hz2⟩ := info_parts infoEv
  obtain ⟨W0, hW0⟩ : ∃ W0, W0 = (((w.alloc (.cells (x.cells s).toArray 28)).alloc (.cells #[.slice y.a l.length y.cap] 31)).alloc (.cells (fa.cells f).toArray 37)).alloc (.cells #[.string ⟨b.name.toArray⟩, .int .i64 b.sort] 47) := ⟨_, rfl⟩
  have hb0 : Below w.heap.size w W0 := by rw [hW0]; exact ((((Below.refl _ _).alloc (Nat.le_refl _) _).alloc (by simp) _).alloc (by simp; omega) _).alloc (by simp; omega) _
  have hs0 : SchBox W0 w.heap.size s x := by rw [hW0]; unfold SchBox; rw [heap_get, if_neg (by first | (simp; done) | (simp; omega)), heap_get, if_neg (by first | (simp; done) | (simp; omega)), heap_get, if_neg (by first | (simp; done) | (simp; omega)), heap_get, if_pos rfl]
  have hk0 : W0.heap[w.heap.size + 1]? = some (.cells #[.slice y.a l.length y.cap] 31 (0, 0)) := by rw [hW0, heap_get, if_neg (by first | (simp; done) | (simp; omega)), heap_get, if_neg (by first | (simp; done) | (simp; omega)), heap_get, if_pos (by simp)]
  have hf0 : FrmBox W0 (w.heap.size + 1 + 1) f fa := by rw [hW0]; unfold FrmBox; rw [heap_get, if_neg (by first | (simp; done) | (simp; omega)), heap_get, if_pos (by simp)]
  have hg0 : W0.heap[w.heap.size + 1 + 1 + 1]? = some (.cells #[.string ⟨b.name.toArray⟩, .int .i64 b.sort] 47 (0, 0)) := by rw [hW0, heap_get, if_pos (by simp)]
  have HE : Hid (∀ w', Below W0.heap.size W0 w' → Below w.heap.size w w' ∧ (w'.cell? ⟨w.heap.size, 0, none⟩ = some (.slice x.slots.a s.slots.length x.slots.cap) ∧ w'.cell? ⟨w.heap.size, 1, none⟩ = some (.slice x.rooms.a s.rooms.length x.rooms.cap) ∧ w'.cell? ⟨w.heap.size, 2, none⟩ = some (.slice x.people.a s.people.length x.people.cap) ∧ w'.cell? ⟨w.heap.size, 3, none⟩ = some (.slice x.groups.a s.groups.length x.groups.cap) ∧ w'.cell? ⟨w.heap.size, 4, none⟩ = some (.slice x.lessons.a s.lessons.length x.lessons.cap)) ∧ w'.cell? ⟨w.heap.size + 1, 0, none⟩ = some (.slice y.a l.length y.cap) ∧ (w'.cell? ⟨w.heap.size + 1 + 1, 0, none⟩ = some (.int .i64 f.kind) ∧ w'.cell? ⟨w.heap.size + 1 + 1, 1, none⟩ = some (.string ⟨f.name.toArray⟩) ∧ w'.cell? ⟨w.heap.size + 1 + 1, 2, none⟩ = some (.int .i64 f.n) ∧ w'.cell? ⟨w.heap.size + 1 + 1, 3, none⟩ = some (.slice fa.t.a f.terms.length fa.t.cap) ∧ w'.cell? ⟨w.heap.size + 1 + 1, 4, none⟩ = some (.slice fa.b.a f.binds.length fa.b.cap) ∧ w'.cell? ⟨w.heap.size + 1 + 1, 5, none⟩ = some (.slice fa.l.a f.l.length fa.l.cap)) ∧ (w'.cell? ⟨w.heap.size + 1 + 1 + 1, 0, none⟩ = some (.string ⟨b.name.toArray⟩) ∧ w'.cell? ⟨w.heap.size + 1 + 1 + 1, 1, none⟩ = some (.int .i64 b.sort))) := Lib.hid (fun W hW =>
    ⟨hb0.trans (hW.mono hb0.size), (hs0.below hW).cells, cell_of_heap (WkBox.below hk0 hW) rfl, (hf0.below hW).cells, cell_of_heap ((hW.block _ (Array.getElem?_eq_some_iff.1 hg0).1).trans hg0) rfl, cell_of_heap ((hW.block _ (Array.getElem?_eq_some_iff.1 hg0).1).trans hg0) rfl⟩)
  have HB0 := Lib.hid hb0
  have HW0 := Lib.hid hW0
  clear hb0 hs0 hk0 hf0 hg0 hW0 hI hf hff hfz hg hs hy hl hz hel hmax hx hbs hn
  generalize hL : evHolds s l env (quFrm 16 n b f) = L at HPL
  generalize hM : evHolds s l env (quFrm 17 n b f) = M at HPL
  generalize hA : evHolds s l env (quFrm 14 0 b f) = A at HPL
  generalize hO : evHolds s l env (quFrm 15 0 b f) = O at HPL
  have HEQ := Lib.hid (show evHolds s l env (oneF 16 n [b] f) = L ∧ evHolds s l env (oneF 17 n [b] f) = M ∧ evHolds s l env (oneF 14 0 [b] f) = A ∧ evHolds s l env (oneF 15 0 [b] f) = O from And.intro hL (And.intro hM (And.intro hA hO)))
  clear hL hM hA hO
  generalize hc : schCount s b.sort = c at HCT HPL HCL
  have HCE := Lib.hid hc
  clear hc
  obtain ⟨a, ea⟩ := L
  simp only at HPL
  simp only [ndV, SchA.cells, FrmA.cells, SlA.val, List.length_append, List.length_singleton] at HFW HHD HHM HCT HW0 HE ⊢
  go_enter Tryz.func4, Tryz.ntmps4
  go_wp2_with fail
  rw [← HW0.out]
  refine (HLV.out _ HB0.out).mono ?_
  rintro e w1 ⟨rfl, hb1⟩
  have H1 := Lib.hid hb1
  clear hb1
  obtain ⟨_, ⟨c0, c1, c2, c3, c4⟩, d0, ⟨f0, f1, f2, f3, f4, f5⟩, ⟨g0, g1⟩⟩ := HE.out w1 H1.out
  go_wp2_with fail
  refine (HFW.out f fa HXF.out.2 HXF.out.1 _ (HE.out _ H1.out).1).mono ?_
  rintro e w2 ⟨⟨b2, rfl⟩, hb2⟩
  have H2 := Lib.hid (H1.out.trans (hb2.mono H1.out.size))
  clear hb2 c0 c1 c2 c3 c4 d0 f0 f1 f2 f3 f4 f5 g0 g1
  obtain ⟨_, ⟨c0, c1, c2, c3, c4⟩, d0, ⟨f0, f1, f2, f3, f4, f5⟩, ⟨g0, g1⟩⟩ := HE.out w2 H2.out
  by_cases hbb : 100 < b.name.length
  · have hd : decide ((b.name.length : Int) > 100) = true := by simp; omega
    cases b2 <;>
    · go_wp2_with fail
      go_ret
      exact ⟨rfl, (HE.out _ H2.out).1⟩
  have hd : decide ((b.name.length : Int) > 100) = false := by simp; omega
  cases b2
  · go_wp2_with fail
    go_ret
    exact ⟨rfl, (HE.out _ H2.out).1⟩
  go_wp2_with fail
  obtain ⟨W3, hW3⟩ : ∃ W3, W3 = w2.alloc (.cells #[.string ⟨b.name.toArray⟩, .int .i64 b.sort] 47) := ⟨_, rfl⟩
  have hb3 : Below w2.heap.size w2 W3 := by rw [hW3]; exact (Below.refl _ _).alloc (Nat.le_refl _) _
  have H3 := Lib.hid (H2.out.trans (hb3.mono H2.out.size))
  have HBD : Hid (SlIn W3 (· < W3.heap.size) ([b].map Bnd.toD) ⟨some ⟨w2.heap.size, 0, none⟩, w2.heap.size, 0, 1⟩) := Lib.hid (by
    have := SlIn.lit' (w := w2) (e := 47) (n := 1) (lo := 0) (Nat.zero_le _) (DsAt.flat1 (F := Fr 0 w2) (x := Bnd.toD b) (Bnd.flatT.flat _) ⟨by show (⟨b.name.toArray⟩ : ByteArray).size ≤ maxLen; rw [bs_size]; exact HBM.out, I64.wf HI64.out.2, trivial⟩) rfl (by decide)
    rw [hW3]; exact this.mono (fun _ h => h.2))
  clear hbb hd
  rw [← hW3]
  have HW3 := Lib.hid hW3
  clear hb3 hW3 c0 c1 c2 c3 c4 d0 f0 f1 f2 f3 f4 f5 g0 g1
  have HX : Hid (∀ w', Below W3.heap.size W3 w' → (w'.cell? ⟨w.heap.size, 0, none⟩ = some (.slice x.slots.a s.slots.length x.slots.cap) ∧ w'.cell? ⟨w.heap.size, 1, none⟩ = some (.slice x.rooms.a s.rooms.length x.rooms.cap) ∧ w'.cell? ⟨w.heap.size, 2, none⟩ = some (.slice x.people.a s.people.length x.people.cap) ∧ w'.cell? ⟨w.heap.size, 3, none⟩ = some (.slice x.groups.a s.groups.length x.groups.cap) ∧ w'.cell? ⟨w.heap.size, 4, none⟩ = some (.slice x.lessons.a s.lessons.length x.lessons.cap)) ∧ w'.cell? ⟨w.heap.size + 1, 0, none⟩ = some (.slice y.a l.length y.cap) ∧ (w'.cell? ⟨w.heap.size + 1 + 1, 0, none⟩ = some (.int .i64 f.kind) ∧ w'.cell? ⟨w.heap.size + 1 + 1, 1, none⟩ = some (.string ⟨f.name.toArray⟩) ∧ w'.cell? ⟨w.heap.size + 1 + 1, 2, none⟩ = some (.int .i64 f.n) ∧ w'.cell? ⟨w.heap.size + 1 + 1, 3, none⟩ = some (.slice fa.t.a f.terms.length fa.t.cap) ∧ w'.cell? ⟨w.heap.size + 1 + 1, 4, none⟩ = some (.slice fa.b.a f.binds.length fa.b.cap) ∧ w'.cell? ⟨w.heap.size + 1 + 1, 5, none⟩ = some (.slice fa.l.a f.l.length fa.l.cap))) := Lib.hid (fun w' hW => ⟨(HE.out w' (H3.out.trans (hW.mono H3.out.size))).2.1, (HE.out w' (H3.out.trans (hW.mono H3.out.size))).2.2.1, (HE.out w' (H3.out.trans (hW.mono H3.out.size))).2.2.2.1⟩)
  go_region_held3 (fun w' => (w'.cell? ⟨w.heap.size, 0, none⟩ = some (.slice x.slots.a s.slots.length x.slots.cap) ∧ w'.cell? ⟨w.heap.size, 1, none⟩ = some (.slice x.rooms.a s.rooms.length x.rooms.cap) ∧ w'.cell? ⟨w.heap.size, 2, none⟩ = some (.slice x.people.a s.people.length x.people.cap) ∧ w'.cell? ⟨w.heap.size, 3, none⟩ = some (.slice x.groups.a s.groups.length x.groups.cap) ∧ w'.cell? ⟨w.heap.size, 4, none⟩ = some (.slice x.lessons.a s.lessons.length x.lessons.cap)) ∧ w'.cell? ⟨w.heap.size + 1, 0, none⟩ = some (.slice y.a l.length y.cap) ∧ (w'.cell? ⟨w.heap.size + 1 + 1, 0, none⟩ = some (.int .i64 f.kind) ∧ w'.cell? ⟨w.heap.size + 1 + 1, 1, none⟩ = some (.string ⟨f.name.toArray⟩) ∧ w'.cell? ⟨w.heap.size + 1 + 1, 2, none⟩ = some (.int .i64 f.n) ∧ w'.cell? ⟨w.heap.size + 1 + 1, 3, none⟩ = some (.slice fa.t.a f.terms.length fa.t.cap) ∧ w'.cell? ⟨w.heap.size + 1 + 1, 4, none⟩ = some (.slice fa.b.a f.binds.length fa.b.cap) ∧ w'.cell? ⟨w.heap.size + 1 + 1, 5, none⟩ = some (.slice fa.l.a f.l.length fa.l.cap))) ((refine HX.out _ ?_; first | exact HK5.out | exact HK4.out.1 | exact (Below.refl _ _).drew | fail)) (first
    | (go_at_call 11; refine (HHD.out (oneF 16 n [b] f) u4 (HN1.out 16 n) _ ((HE.out _ H3.out).1.trans (HK4.out.1.mono (HE.out _ H3.out).1.size)) HK4.out.2).mono ?_; rw [HEQ.out.1]; rintro e w5 ⟨rfl, hbb⟩; have HK5 := Lib.hid (HK4.out.1.trans (hbb.mono HK4.out.1.size)); clear hbb)
    | (go_at_call 12; refine (lone_any 16 n [b] f ⟨some ⟨w2.heap.size, 0, none⟩, w2.heap.size, 0, 1⟩ fa _ 0 (Nat.zero_le _) (i64_of (by decide)) HI64.out.1 (HBD.out.later (Below.refl _ _).drew (Nat.le_refl _)).fr (HXF.out.1.later ((HE.out _ H3.out).1.trans (Below.refl _ _).drew) ((HE.out _ H3.out).1.trans (Below.refl _ _).drew).size).fr).mono ?_; rintro e w4 ⟨u4, rfl, hu, hbb⟩; have HK4 := Lib.hid (And.intro ((Below.refl _ _).drew.trans hbb) hu.all); have eu : ndV ((oneF 16 n [b] f), u4) = .agg #[.int .i64 16, .string ⟨#[]⟩, .int .i64 n, .slice u4.t.a 0 u4.t.cap, .slice u4.b.a 1 u4.b.cap, .slice u4.l.a 1 u4.l.cap] := rfl; rw [eu]; clear hbb hu eu))
  have H5 := Lib.hid (H3.out.trans ((HK5.out.mono (Nat.le_refl _)).mono H3.out.size))
  replace HBD := Lib.hid (HBD.out.later (HK5.out.mono (Nat.le_refl _)) (HK5.out.mono (Nat.le_refl _)).size)
  clear HX HK4 HK5
  by_cases hea : ea = 0
  rotate_left
  · have ha := HPL.out.1 hea
    subst ha
    clear HPL
    go_wp2_with fail
    go_ret
    exact ⟨by simp, (HE.out _ H5.out).1⟩
  subst hea
  obtain ⟨hLe, rfl, rfl, rfl, hpt⟩ := HPL.out.2 rfl
  obtain ⟨rfl, _⟩ := Prod.mk.inj hLe
  have HPT := Lib.hid hpt
  clear HPL hpt hLe
  go_wp2_with fail
  have HX : Hid (∀ w', Below w5.heap.size w5 w' → (w'.cell? ⟨w.heap.size, 0, none⟩ = some (.slice x.slots.a s.slots.length x.slots.cap) ∧ w'.cell? ⟨w.heap.size, 1, none⟩ = some (.slice x.rooms.a s.rooms.length x.rooms.cap) ∧ w'.cell? ⟨w.heap.size, 2, none⟩ = some (.slice x.people.a s.people.length x.people.cap) ∧ w'.cell? ⟨w.heap.size, 3, none⟩ = some (.slice x.groups.a s.groups.length x.groups.cap) ∧ w'.cell? ⟨w.heap.size, 4, none⟩ = some (.slice x.lessons.a s.lessons.length x.lessons.cap)) ∧ w'.cell? ⟨w.heap.size + 1, 0, none⟩ = some (.slice y.a l.length y.cap) ∧ (w'.cell? ⟨w.heap.size + 1 + 1, 0, none⟩ = some (.int .i64 f.kind) ∧ w'.cell? ⟨w.heap.size + 1 + 1, 1, none⟩ = some (.string ⟨f.name.toArray⟩) ∧ w'.cell? ⟨w.heap.size + 1 + 1, 2, none⟩ = some (.int .i64 f.n) ∧ w'.cell? ⟨w.heap.size + 1 + 1, 3, none⟩ = some (.slice fa.t.a f.terms.length fa.t.cap) ∧ w'.cell? ⟨w.heap.size + 1 + 1, 4, none⟩ = some (.slice fa.b.a f.binds.length fa.b.cap) ∧ w'.cell? ⟨w.heap.size + 1 + 1, 5, none⟩ = some (.slice fa.l.a f.l.length fa.l.cap))) := Lib.hid (fun w' hW => ⟨(HE.out w' (H5.out.trans (hW.mono H5.out.size))).2.1, (HE.out w' (H5.out.trans (hW.mono H5.out.size))).2.2.1, (HE.out w' (H5.out.trans (hW.mono H5.out.size))).2.2.2.1⟩)
  go_region_held3 (fun w' => (w'.cell? ⟨w.heap.size, 0, none⟩ = some (.slice x.slots.a s.slots.length x.slots.cap) ∧ w'.cell? ⟨w.heap.size, 1, none⟩ = some (.slice x.rooms.a s.rooms.length x.rooms.cap) ∧ w'.cell? ⟨w.heap.size, 2, none⟩ = some (.slice x.people.a s.people.length x.people.cap) ∧ w'.cell? ⟨w.heap.size, 3, none⟩ = some (.slice x.groups.a s.groups.length x.groups.cap) ∧ w'.cell? ⟨w.heap.size, 4, none⟩ = some (.slice x.lessons.a s.lessons.length x.lessons.cap)) ∧ w'.cell? ⟨w.heap.size + 1, 0, none⟩ = some (.slice y.a l.length y.cap) ∧ (w'.cell? ⟨w.heap.size + 1 + 1, 0, none⟩ = some (.int .i64 f.kind) ∧ w'.cell? ⟨w.heap.size + 1 + 1, 1, none⟩ = some (.string ⟨f.name.toArray⟩) ∧ w'.cell? ⟨w.heap.size + 1 + 1, 2, none⟩ = some (.int .i64 f.n) ∧ w'.cell? ⟨w.heap.size + 1 + 1, 3, none⟩ = some (.slice fa.t.a f.terms.length fa.t.cap) ∧ w'.cell? ⟨w.heap.size + 1 + 1, 4, none⟩ = some (.slice fa.b.a f.binds.length fa.b.cap) ∧ w'.cell? ⟨w.heap.size + 1 + 1, 5, none⟩ = some (.slice fa.l.a f.l.length fa.l.cap))) ((refine HX.out _ ?_; first | exact HK7.out | exact HK6.out.1 | exact (Below.refl _ _).drew | fail)) (first
    | (go_at_call 11; refine (HHD.out (oneF 17 n [b] f) u6 (HN1.out 17 n) _ ((HE.out _ H5.out).1.trans (HK6.out.1.mono (HE.out _ H5.out).1.size)) HK6.out.2).mono ?_; rw [HEQ.out.2.1]; rintro e w7 ⟨rfl, hbb⟩; have HK7 := Lib.hid (HK6.out.1.trans (hbb.mono HK6.out.1.size)); clear hbb)
    | (go_at_call 12; refine (lone_any 17 n [b] f ⟨some ⟨w2.heap.size, 0, none⟩, w2.heap.size, 0, 1⟩ fa _ 0 (Nat.zero_le _) (i64_of (by decide)) HI64.out.1 (HBD.out.later (Below.refl _ _).drew (Nat.le_refl _)).fr (HXF.out.1.later ((HE.out _ H5.out).1.trans (Below.refl _ _).drew) ((HE.out _ H5.out).1.trans (Below.refl _ _).drew).size).fr).mono ?_; rintro e w6 ⟨u6, rfl, hu, hbb⟩; have HK6 := Lib.hid (And.intro ((Below.refl _ _).drew.trans hbb) hu.all); have eu : ndV ((oneF 17 n [b] f), u6) = .agg #[.int .i64 17, .string ⟨#[]⟩, .int .i64 n, .slice u6.t.a 0 u6.t.cap, .slice u6.b.a 1 u6.b.cap, .slice u6.l.a 1 u6.l.cap] := rfl; rw [eu]; clear hbb hu eu))
  have H7 := Lib.hid (H5.out.trans ((HK7.out.mono (Nat.le_refl _)).mono H5.out.size))
  replace HBD := Lib.hid (HBD.out.later (HK7.out.mono (Nat.le_refl _)) (HK7.out.mono (Nat.le_refl _)).size)
  clear HX HK6 HK7
  go_wp2_with fail
  have HX : Hid (∀ w', Below w7.heap.size w7 w' → (w'.cell? ⟨w.heap.size, 0, none⟩ = some (.slice x.slots.a s.slots.length x.slots.cap) ∧ w'.cell? ⟨w.heap.size, 1, none⟩ = some (.slice x.rooms.a s.rooms.length x.rooms.cap) ∧ w'.cell? ⟨w.heap.size, 2, none⟩ = some (.slice x.people.a s.people.length x.people.cap) ∧ w'.cell? ⟨w.heap.size, 3, none⟩ = some (.slice x.groups.a s.groups.length x.groups.cap) ∧ w'.cell? ⟨w.heap.size, 4, none⟩ = some (.slice x.lessons.a s.lessons.length x.lessons.cap)) ∧ w'.cell? ⟨w.heap.size + 1, 0, none⟩ = some (.slice y.a l.length y.cap) ∧ (w'.cell? ⟨w.heap.size + 1 + 1, 0, none⟩ = some (.int .i64 f.kind) ∧ w'.cell? ⟨w.heap.size + 1 + 1, 1, none⟩ = some (.string ⟨f.name.toArray⟩) ∧ w'.cell? ⟨w.heap.size + 1 + 1, 2, none⟩ = some (.int .i64 f.n) ∧ w'.cell? ⟨w.heap.size + 1 + 1, 3, none⟩ = some (.slice fa.t.a f.terms.length fa.t.cap) ∧ w'.cell? ⟨w.heap.size + 1 + 1, 4, none⟩ = some (.slice fa.b.a f.binds.length fa.b.cap) ∧ w'.cell? ⟨w.heap.size + 1 + 1, 5, none⟩ = some (.slice fa.l.a f.l.length fa.l.cap))) := Lib.hid (fun w' hW => ⟨(HE.out w' (H7.out.trans (hW.mono H7.out.size))).2.1, (HE.out w' (H7.out.trans (hW.mono H7.out.size))).2.2.1, (HE.out w' (H7.out.trans (hW.mono H7.out.size))).2.2.2.1⟩)
  go_region_held3 (fun w' => (w'.cell? ⟨w.heap.size, 0, none⟩ = some (.slice x.slots.a s.slots.length x.slots.cap) ∧ w'.cell? ⟨w.heap.size, 1, none⟩ = some (.slice x.rooms.a s.rooms.length x.rooms.cap) ∧ w'.cell? ⟨w.heap.size, 2, none⟩ = some (.slice x.people.a s.people.length x.people.cap) ∧ w'.cell? ⟨w.heap.size, 3, none⟩ = some (.slice x.groups.a s.groups.length x.groups.cap) ∧ w'.cell? ⟨w.heap.size, 4, none⟩ = some (.slice x.lessons.a s.lessons.length x.lessons.cap)) ∧ w'.cell? ⟨w.heap.size + 1, 0, none⟩ = some (.slice y.a l.length y.cap) ∧ (w'.cell? ⟨w.heap.size + 1 + 1, 0, none⟩ = some (.int .i64 f.kind) ∧ w'.cell? ⟨w.heap.size + 1 + 1, 1, none⟩ = some (.string ⟨f.name.toArray⟩) ∧ w'.cell? ⟨w.heap.size + 1 + 1, 2, none⟩ = some (.int .i64 f.n) ∧ w'.cell? ⟨w.heap.size + 1 + 1, 3, none⟩ = some (.slice fa.t.a f.terms.length fa.t.cap) ∧ w'.cell? ⟨w.heap.size + 1 + 1, 4, none⟩ = some (.slice fa.b.a f.binds.length fa.b.cap) ∧ w'.cell? ⟨w.heap.size + 1 + 1, 5, none⟩ = some (.slice fa.l.a f.l.length fa.l.cap))) ((refine HX.out _ ?_; first | exact HK9.out | exact HK8.out.1 | exact (Below.refl _ _).drew | fail)) (first
    | (go_at_call 11; refine (HHD.out (oneF 14 0 [b] f) u8 (HN1.out 14 0) _ ((HE.out _ H7.out).1.trans (HK8.out.1.mono (HE.out _ H7.out).1.size)) HK8.out.2).mono ?_; rw [HEQ.out.2.2.1]; rintro e w9 ⟨rfl, hbb⟩; have HK9 := Lib.hid (HK8.out.1.trans (hbb.mono HK8.out.1.size)); clear hbb)
    | (go_at_call 12; refine (lone_any 14 0 [b] f ⟨some ⟨w2.heap.size, 0, none⟩, w2.heap.size, 0, 1⟩ fa _ 0 (Nat.zero_le _) (i64_of (by decide)) (i64_of (by decide)) (HBD.out.later (Below.refl _ _).drew (Nat.le_refl _)).fr (HXF.out.1.later ((HE.out _ H7.out).1.trans (Below.refl _ _).drew) ((HE.out _ H7.out).1.trans (Below.refl _ _).drew).size).fr).mono ?_; rintro e w8 ⟨u8, rfl, hu, hbb⟩; have HK8 := Lib.hid (And.intro ((Below.refl _ _).drew.trans hbb) hu.all); have eu : ndV ((oneF 14 0 [b] f), u8) = .agg #[.int .i64 14, .string ⟨#[]⟩, .int .i64 0, .slice u8.t.a 0 u8.t.cap, .slice u8.b.a 1 u8.b.cap, .slice u8.l.a 1 u8.l.cap] := rfl; rw [eu]; clear hbb hu eu))
  have H9 := Lib.hid (H7.out.trans ((HK9.out.mono (Nat.le_refl _)).mono H7.out.size))
  replace HBD := Lib.hid (HBD.out.later (HK9.out.mono (Nat.le_refl _)) (HK9.out.mono (Nat.le_refl _)).size)
  clear HX HK8 HK9
  go_wp2_with fail
  have HX : Hid (∀ w', Below w9.heap.size w9 w' → (w'.cell? ⟨w.heap.size, 0, none⟩ = some (.slice x.slots.a s.slots.length x.slots.cap) ∧ w'.cell? ⟨w.heap.size, 1, none⟩ = some (.slice x.rooms.a s.rooms.length x.rooms.cap) ∧ w'.cell? ⟨w.heap.size, 2, none⟩ = some (.slice x.people.a s.people.length x.people.cap) ∧ w'.cell? ⟨w.heap.size, 3, none⟩ = some (.slice x.groups.a s.groups.length x.groups.cap) ∧ w'.cell? ⟨w.heap.size, 4, none⟩ = some (.slice x.lessons.a s.lessons.length x.lessons.cap)) ∧ w'.cell? ⟨w.heap.size + 1, 0, none⟩ = some (.slice y.a l.length y.cap) ∧ (w'.cell? ⟨w.heap.size + 1 + 1, 0, none⟩ = some (.int .i64 f.kind) ∧ w'.cell? ⟨w.heap.size + 1 + 1, 1, none⟩ = some (.string ⟨f.name.toArray⟩) ∧ w'.cell? ⟨w.heap.size + 1 + 1, 2, none⟩ = some (.int .i64 f.n) ∧ w'.cell? ⟨w.heap.size + 1 + 1, 3, none⟩ = some (.slice fa.t.a f.terms.length fa.t.cap) ∧ w'.cell? ⟨w.heap.size + 1 + 1, 4, none⟩ = some (.slice fa.b.a f.binds.length fa.b.cap) ∧ w'.cell? ⟨w.heap.size + 1 + 1, 5, none⟩ = some (.slice fa.l.a f.l.length fa.l.cap))) := Lib.hid (fun w' hW => ⟨(HE.out w' (H9.out.trans (hW.mono H9.out.size))).2.1, (HE.out w' (H9.out.trans (hW.mono H9.out.size))).2.2.1, (HE.out w' (H9.out.trans (hW.mono H9.out.size))).2.2.2.1⟩)
  go_region_held3 (fun w' => (w'.cell? ⟨w.heap.size, 0, none⟩ = some (.slice x.slots.a s.slots.length x.slots.cap) ∧ w'.cell? ⟨w.heap.size, 1, none⟩ = some (.slice x.rooms.a s.rooms.length x.rooms.cap) ∧ w'.cell? ⟨w.heap.size, 2, none⟩ = some (.slice x.people.a s.people.length x.people.cap) ∧ w'.cell? ⟨w.heap.size, 3, none⟩ = some (.slice x.groups.a s.groups.length x.groups.cap) ∧ w'.cell? ⟨w.heap.size, 4, none⟩ = some (.slice x.lessons.a s.lessons.length x.lessons.cap)) ∧ w'.cell? ⟨w.heap.size + 1, 0, none⟩ = some (.slice y.a l.length y.cap) ∧ (w'.cell? ⟨w.heap.size + 1 + 1, 0, none⟩ = some (.int .i64 f.kind) ∧ w'.cell? ⟨w.heap.size + 1 + 1, 1, none⟩ = some (.string ⟨f.name.toArray⟩) ∧ w'.cell? ⟨w.heap.size + 1 + 1, 2, none⟩ = some (.int .i64 f.n) ∧ w'.cell? ⟨w.heap.size + 1 + 1, 3, none⟩ = some (.slice fa.t.a f.terms.length fa.t.cap) ∧ w'.cell? ⟨w.heap.size + 1 + 1, 4, none⟩ = some (.slice fa.b.a f.binds.length fa.b.cap) ∧ w'.cell? ⟨w.heap.size + 1 + 1, 5, none⟩ = some (.slice fa.l.a f.l.length fa.l.cap))) ((refine HX.out _ ?_; first | exact HK11.out | exact HK10.out.1 | exact (Below.refl _ _).drew | fail)) (first
    | (go_at_call 11; refine (HHD.out (oneF 15 0 [b] f) u10 (HN1.out 15 0) _ ((HE.out _ H9.out).1.trans (HK10.out.1.mono (HE.out _ H9.out).1.size)) HK10.out.2).mono ?_; rw [HEQ.out.2.2.2]; rintro e w11 ⟨rfl, hbb⟩; have HK11 := Lib.hid (HK10.out.1.trans (hbb.mono HK10.out.1.size)); clear hbb)
    | (go_at_call 12; refine (lone_any 15 0 [b] f ⟨some ⟨w2.heap.size, 0, none⟩, w2.heap.size, 0, 1⟩ fa _ 0 (Nat.zero_le _) (i64_of (by decide)) (i64_of (by decide)) (HBD.out.later (Below.refl _ _).drew (Nat.le_refl _)).fr (HXF.out.1.later ((HE.out _ H9.out).1.trans (Below.refl _ _).drew) ((HE.out _ H9.out).1.trans (Below.refl _ _).drew).size).fr).mono ?_; rintro e w10 ⟨u10, rfl, hu, hbb⟩; have HK10 := Lib.hid (And.intro ((Below.refl _ _).drew.trans hbb) hu.all); have eu : ndV ((oneF 15 0 [b] f), u10) = .agg #[.int .i64 15, .string ⟨#[]⟩, .int .i64 0, .slice u10.t.a 0 u10.t.cap, .slice u10.b.a 1 u10.b.cap, .slice u10.l.a 1 u10.l.cap] := rfl; rw [eu]; clear hbb hu eu))
  have H11 := Lib.hid (H9.out.trans ((HK11.out.mono (Nat.le_refl _)).mono H9.out.size))
  replace HBD := Lib.hid (HBD.out.later (HK11.out.mono (Nat.le_refl _)) (HK11.out.mono (Nat.le_refl _)).size)
  clear HX HK10 HK11
  obtain ⟨_, ⟨c0, c1, c2, c3, c4⟩, d0, ⟨f0, f1, f2, f3, f4, f5⟩, ⟨g0, g1⟩⟩ := HE.out w11 H11.out
  go_wp2_with fail
  refine (HCT.out _ (HE.out _ H11.out).1).mono ?_
  rintro e w12 ⟨rfl, hb⟩
  have H12 := Lib.hid (H11.out.trans (hb.mono H11.out.size))
  clear hb c0 c1 c2 c3 c4 d0 f0 f1 f2 f3 f4 f5 g0 g1
  go_wp2_with fail
  go_loopw [23, 24] (fun kk at_ wr => ∃ j : Nat, j ≤ c ∧ kk = .int .i64 (partN s l env f b j : Nat) ∧ at_ = .int .i64 j ∧ Hid (Below W0.heap.size W0 wr)) (fun _ i _ => c - (intOf i).toNat)
  case atStart => exact ⟨0, Nat.zero_le _, rfl, rfl, H12⟩
  case round =>
    obtain ⟨j, hj, rfl, rfl, HB⟩ := hrel
    by_cases hlt : j < c
    · have hR := (HE.out _ HB.out).1
      have hba : Below wr.heap.size wr (wr.alloc (.cells #[] 50)) := (Below.refl _ _).alloc (Nat.le_refl _) _
      have HS : Hid (DAt (wr.alloc (.cells #[] 50)) (· < wr.heap.size) (.sl (env.map Ev.toD)) [.slice z.a env.length z.cap]) := Lib.hid (by have := ((HZ.out.1.later hR hR.size).later hba (Nat.le_refl _)).d; rw [List.length_map] at this; exact this)
      have HO : Hid (Chalk.Own (wr.alloc (.cells #[] 50)) (· < wr.heap.size) 50 3 (.slice (some ⟨wr.heap.size, 0, none⟩) 0 0) (some wr.heap.size) []) := Lib.hid (Chalk.Own.lit (w := wr) (n := 0) (cs := []) rfl (by unfold maxLen; omega) rfl (by rw [DsAt]) (fun _ h => h))
      have HBA := Lib.hid hba
      have HLN : Hid ((env.map Ev.toD).length = env.length) := Lib.hid (by simp)
      have HMP : Hid ((env ++ [(⟨b.name, b.sort, (j : Int)⟩ : Ev)]).map Ev.toD = env.map Ev.toD ++ [Ev.toD ⟨b.name, b.sort, (j : Int)⟩]) := Lib.hid (by simp)
      have hel : env.length ≤ 1400000 := HZ.out.2
      have hpn := partN_le s l env f b j
      have hcl : c ≤ 2000000 := HCL.out
      have HPS := Lib.hid (partN_succ s l env f b j)
      have HPJ := Lib.hid (HPT.out j hlt)
      clear hR hba
      go_upto_region 18 with (at_builtin; go_must (refine wpList_append_src _ (by rfl) _ _ _ rfl 50 i0 _ 3 32 Tryz.underlying32 hi hz0 hz1 hz2 rfl (by omega) (.slice (some ⟨wr.heap.size, 0, none⟩) 0 0) (.slice z.a env.length z.cap) (· < wr.heap.size) (some wr.heap.size) [] (env.map Ev.toD) rfl rfl HO.out HS.out (by rw [widths_map Ev.flatT, HLN.out]) (by rw [HLN.out]; simp; unfold maxLen; omega) (by rw [HLN.out]; simp; omega) ?_); intro oa ocap orow w13 hown hmod hat; have HOW := Lib.hid hown; have HM := Lib.hid (And.intro hmod hat); clear hown hmod hat; rw [HLN.out]; simp only [List.length_nil, Nat.zero_add])
      have hb13 : Below wr.heap.size wr w13 := HBA.out.trans (HM.out.1.below HBA.out.size (fun k hk => by simp at hk; omega))
      have HO13 : Hid (OwnN w13 wr.heap.size (· < wr.heap.size) 50 3 (.slice oa env.length ocap) (env.map Ev.toD)) := Lib.hid ⟨orow, by have := HOW.out; rw [List.nil_append, List.length_nil, Nat.zero_add, HLN.out] at this; exact this, fun k hk => by rcases HM.out.2 with h | h <;> rw [h] at hk <;> simp at hk <;> omega⟩
      have HB13 := Lib.hid (HB.out.trans (hb13.mono HB.out.size))
      have H13 := Lib.hid hb13
      clear hb13 HOW HM HO HS
      obtain ⟨_, ⟨c0, c1, c2, c3, c4⟩, d0, ⟨f0, f1, f2, f3, f4, f5⟩, ⟨g0, g1⟩⟩ := HE.out w13 HB13.out
      go_wp2_with (at_builtin; go_must (refine wpList_append_oneO (W0 := w13) (B := w13.heap.size) rfl (by rfl) _ _ 32 rfl 50 i0 _ 3 32 Tryz.underlying32 hi hz0 hz1 hz2 rfl (by omega) (.slice oa env.length ocap) (env.map Ev.toD) (Ev.toD ⟨b.name, b.sort, (j : Int)⟩) [.string ⟨b.name.toArray⟩, .int .i64 b.sort, .int .i64 (j : Int)] 50 rfl rfl HO13.out (DsAt.flat1 (Ev.flatT.flat _) ⟨by show (⟨b.name.toArray⟩ : ByteArray).size ≤ maxLen; rw [bs_size]; exact HBM.out, I64.wf HI64.out.2, I64.wf (show I64 ((j : Nat) : Int) by unfold I64; omega), trivial⟩) H13.out.size rfl (by rw [HLN.out]; unfold maxLen; omega) (by rw [HLN.out]; omega) ?_); intro ao acap w14 hon hb14; rw [HLN.out] at hon ⊢; rw [← HMP.out] at hon; obtain ⟨za, hza, hsl⟩ := hon.onto.sl (by rw [widths_map Ev.flatT, List.length_map]); have HON := Lib.hid (And.intro hsl hb14); simp only [SlA.val, Value.slice.injEq] at hza; obtain ⟨rfl, -, rfl⟩ := hza; clear hon hsl hb14 c0 c1 c2 c3 c4 d0 f0 f1 f2 f3 f4 f5 g0 g1; obtain ⟨_, ⟨c0, c1, c2, c3, c4⟩, d0, ⟨f0, f1, f2, f3, f4, f5⟩, ⟨g0, g1⟩⟩ := HE.out w14 (HB13.out.trans (HON.out.2.mono HB.out.size)))
      refine (HHM.out j za _ (HE.out _ (HB13.out.trans (HON.out.2.mono HB.out.size))).1 HON.out.1).mono ?_
      rw [HPJ.out]
      rintro e w15 ⟨rfl, hb15⟩
      have H15 := Lib.hid ((HB13.out.trans (HON.out.2.mono HB.out.size)).trans (hb15.mono (HB13.out.trans (HON.out.2.mono HB.out.size)).size))
      clear hb15 c0 c1 c2 c3 c4 d0 f0 f1 f2 f3 f4 f5 g0 g1
      generalize partB s l env f b j = pb at HPS HPJ ⊢
      cases pb
      · go_wp2_with fail
        exact ⟨⟨j + 1, by omega, by rw [HPS.out]; rfl, by go_num, H15⟩, by simp [intOf]; omega⟩
      · go_wp2_with fail
        exact ⟨⟨j + 1, by omega, by rw [HPS.out]; go_num, by go_num, H15⟩, by simp [intOf]; omega⟩
    · obtain rfl : j = c := by omega
      go_wp2_with fail
      go_ret
      exact ⟨by simp, (HE.out _ HB.out).1⟩
end Go.Proofs.YtlfjjokcbeaekaaGreatDoor
