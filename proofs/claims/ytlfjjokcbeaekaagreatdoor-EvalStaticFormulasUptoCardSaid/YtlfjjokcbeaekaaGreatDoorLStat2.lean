/- Joined texts: WStat. -/
import Derived.Test.YtlfjjokcbeaekaaGreatDoorB42
import Derived.Test.YtlfjjokcbeaekaaGreatDoorLStat1

/- EvalStaticFormulas: where the listed variables hold what their text lays, the law returns true. (written by tools/gen_stat.py) -/
namespace Go.Proofs.YtlfjjokcbeaekaaGreatDoor
open Go.RowKit Go.Chalk
theorem rev_take {α : Type} {l : List α} {k : Nat} (hk : k < l.length) : l.reverse.take (l.length - k) = l.reverse.take (l.length - (k + 1)) ++ [l[k]] := by
  have h : l.length - k = l.length - (k + 1) + 1 := by omega
  rw [h, List.take_succ_eq_append_getElem (by rw [List.length_reverse]; omega)]
  congr 2
  rw [List.getElem_reverse]
  congr 1
  omega

/-- The plain law, as the walk asks for it. -/
theorem static_plain (s : Schl) (l l' : List Plc) (env : List Ev) (f : Frm) (A B C : Bool × Int) (st : Bool) (hA : A = evHolds s l env f) (hB : B = evHolds s l' env f) (hC : C = evHolds s l env.reverse f) (hst : st = staticF f) :
    (A.2 ≠ 0 → A.1 = false ∧ C.1 = false ∧ C.2 ≠ 0) ∧ (A.2 = 0 → C = A ∧ (B.2 = 0 → st = true → B.1 = A.1)) := by
  subst hA hB hC hst
  have h := static_law s l l' env f
  refine ⟨fun h1 => ?_, fun h1 => ?_⟩
  · rw [if_pos h1] at h
    simpa [and_assoc] using h
  · rw [if_neg (by simpa using h1)] at h
    simp only [Bool.and_eq_true, Bool.or_eq_true, beq_iff_eq, bne_iff_ne, Bool.not_eq_true'] at h
    obtain ⟨⟨h2, h3⟩, h4⟩ := h
    refine ⟨Prod.ext h3.symm (h2.trans h1.symm), fun h5 h6 => ?_⟩
    rcases h4 with (h4 | h4) | h4
    · exact absurd h5 h4
    · rw [h6] at h4; cases h4
    · exact h4.symm

set_option maxRecDepth 100000 in
set_option maxHeartbeats 16000000 in
theorem static_walk (s : Schl) (x : SchA) (l : List Plc) (y : SlA) (l' : List Plc) (y' : SlA) (env : List Ev) (z : SlA) (f : Frm) (fa : FrmA) (w : World) (hI : ItoaAt) (hf : SchFit s) (hff : FrmFit f) (hg : GG w) (hs : SchIn w (· < w.heap.size) s x) (hy : SlIn w (· < w.heap.size) (l.map Plc.toD) y) (hl : l.length ≤ 2000000) (hy' : SlIn w (· < w.heap.size) (l'.map Plc.toD) y') (hl' : l'.length ≤ 2000000)
    (hz : SlIn w (· < w.heap.size) (env.map Ev.toD) z) (hel : env.length ≤ 1400000) (hmax : ∀ e ∈ env, e.name.length ≤ 4000000) (hx : FrmIn w (· < w.heap.size) f fa) :
    Calls Tryz.prog 6 #[.agg (x.cells s).toArray, .agg #[.slice y.a l.length y.cap], .agg #[.slice y'.a l'.length y'.cap], .slice z.a env.length z.cap, ndV (f, fa)] w fun e w' => e = .returned (.bool true) ∧ Below w.heap.size w w' := by
  have HLV := Lib.hid (fun (W : World) (hW : Below w.heap.size w W) => live_any W hI (hg.below hW))
  have HFW := Lib.hid (fun (q : Frm) (qa : FrmA) (hqf : FrmFit q) (hq : FrmIn w (· < w.heap.size) q qa) (W : World) (hW : Below w.heap.size w W) => rfew9_any s x l y env z q qa W hf.toSchSmall hqf (hs.later hW hW.size) hl (hz.later hW hW.size) (by omega) (hq.later hW hW.size))
  have HHD := Lib.hid (fun (q : Frm) (qa : FrmA) (hqf : FrmFit q) (W : World) (hW : Below w.heap.size w W) (hq : FrmIn W (· < W.heap.size) q qa) => eholds_any s x l y env z q qa W hI hf hqf (hg.below hW) (hs.later hW hW.size) (hy.later hW hW.size) hl (hz.later hW hW.size) (by omega) hmax hq)
  have HXF := Lib.hid (And.intro hx hff)
  have HHV := Lib.hid (fun (W : World) (hW : Below w.heap.size w W) => eholds_any s x l' y' env z f fa W hI hf hff (hg.below hW) (hs.later hW hW.size) (hy'.later hW hW.size) hl' (hz.later hW hW.size) (by omega) hmax (hx.later hW hW.size))
  have HHR := Lib.hid (fun (zb : SlA) (W : World) (hW : Below w.heap.size w W) (hzb : SlIn W (· < W.heap.size) (env.reverse.map Ev.toD) zb) => eholds_any s x l y env.reverse zb f fa W hI hf hff (hg.below hW) (hs.later hW hW.size) (hy.later hW hW.size) hl hzb (by simp; omega) (fun e he => hmax e (by simpa using he)) (hx.later hW hW.size))
  have HST := Lib.hid (fun (W : World) (hW : Below w.heap.size w W) => static_any _ f fa W (Nat.le_refl _) hff.size (hx.later hW hW.size))
  obtain ⟨g1, _, _, g4, g5⟩ := hz.flat Ev.flatT
  have HC := Lib.hid g4
  have HFN := Lib.hid g5
  have HEL := Lib.hid hel
  have HPL := Lib.hid (static_plain s l l' env f _ _ _ _ rfl rfl rfl rfl)
  obtain ⟨i0, hi, hz0, hz1, hz2⟩ := info_parts infoEv
  obtain ⟨W0, hW0⟩ : ∃ W0, W0 = (((w.alloc (.cells (x.cells s).toArray 28)).alloc (.cells #[.slice y.a l.length y.cap] 31)).alloc (.cells #[.slice y'.a l'.length y'.cap] 31)).alloc (.cells (fa.cells f).toArray 37) := ⟨_, rfl⟩
  have hb0 : Below w.heap.size w W0 := by rw [hW0]; exact ((((Below.refl _ _).alloc (Nat.le_refl _) _).alloc (by first | (simp; done) | (simp; omega)) _).alloc (by first | (simp; done) | (simp; omega)) _).alloc (by first | (simp; done) | (simp; omega)) _
  have hq0 : SchBox W0 w.heap.size s x := by rw [hW0]; unfold SchBox; rw [heap_get, if_neg (by first | (simp; done) | (simp; omega)), heap_get, if_neg (by first | (simp; done) | (simp; omega)), heap_get, if_neg (by first | (simp; done) | (simp; omega)), heap_get, if_pos (by first | rfl | (simp; done))]
  have hq1 : W0.heap[w.heap.size + 1]? = some (.cells #[.slice y.a l.length y.cap] 31 (0, 0)) := by rw [hW0]; rw [heap_get, if_neg (by first | (simp; done) | (simp; omega)), heap_get, if_neg (by first | (simp; done) | (simp; omega)), heap_get, if_pos (by first | rfl | (simp; done))]
  have hq2 : W0.heap[w.heap.size + 1 + 1]? = some (.cells #[.slice y'.a l'.length y'.cap] 31 (0, 0)) := by rw [hW0]; rw [heap_get, if_neg (by first | (simp; done) | (simp; omega)), heap_get, if_pos (by first | rfl | (simp; done))]
  have hq3 : FrmBox W0 (w.heap.size + 1 + 1 + 1) f fa := by rw [hW0]; unfold FrmBox; rw [heap_get, if_pos (by first | rfl | (simp; done))]
  have HE : Hid (∀ w', Below W0.heap.size W0 w' → Below w.heap.size w w' ∧ (w'.cell? ⟨w.heap.size, 0, none⟩ = some (.slice x.slots.a s.slots.length x.slots.cap) ∧ w'.cell? ⟨w.heap.size, 1, none⟩ = some (.slice x.rooms.a s.rooms.length x.rooms.cap) ∧ w'.cell? ⟨w.heap.size, 2, none⟩ = some (.slice x.people.a s.people.length x.people.cap) ∧ w'.cell? ⟨w.heap.size, 3, none⟩ = some (.slice x.groups.a s.groups.length x.groups.cap) ∧ w'.cell? ⟨w.heap.size, 4, none⟩ = some (.slice x.lessons.a s.lessons.length x.lessons.cap)) ∧ w'.cell? ⟨w.heap.size + 1, 0, none⟩ = some (.slice y.a l.length y.cap) ∧ w'.cell? ⟨w.heap.size + 1 + 1, 0, none⟩ = some (.slice y'.a l'.length y'.cap) ∧ (w'.cell? ⟨w.heap.size + 1 + 1 + 1, 0, none⟩ = some (.int .i64 f.kind) ∧ w'.cell? ⟨w.heap.size + 1 + 1 + 1, 1, none⟩ = some (.string ⟨f.name.toArray⟩) ∧ w'.cell? ⟨w.heap.size + 1 + 1 + 1, 2, none⟩ = some (.int .i64 f.n) ∧ w'.cell? ⟨w.heap.size + 1 + 1 + 1, 3, none⟩ = some (.slice fa.t.a f.terms.length fa.t.cap) ∧ w'.cell? ⟨w.heap.size + 1 + 1 + 1, 4, none⟩ = some (.slice fa.b.a f.binds.length fa.b.cap) ∧ w'.cell? ⟨w.heap.size + 1 + 1 + 1, 5, none⟩ = some (.slice fa.l.a f.l.length fa.l.cap))) := Lib.hid (fun W hW =>
    ⟨hb0.trans (hW.mono hb0.size), (hq0.below hW).cells, cell_of_heap ((hW.block _ (Array.getElem?_eq_some_iff.1 hq1).1).trans hq1) rfl, cell_of_heap ((hW.block _ (Array.getElem?_eq_some_iff.1 hq2).1).trans hq2) rfl, (hq3.below hW).cells⟩)
  have HB0 := Lib.hid hb0
  have HW0 := Lib.hid hW0
  clear hb0 hq0 hq1 hq2 hq3 hW0 hI hf hff hg hs hy hl hz hel hmax hx hy' hl' g4 g5
  generalize hA : evHolds s l env f = A at HPL
  generalize hBe : evHolds s l' env f = B at HPL
  generalize hCe : evHolds s l env.reverse f = C at HPL
  generalize hse : staticF f = st at HPL HST
  have HEQ := Lib.hid (And.intro hA (And.intro hBe hCe))
  clear hA hBe hCe hse
  simp only [ndV, SchA.cells, FrmA.cells, SlA.val, List.length_reverse] at HFW HHD HHV HHR HST HW0 HE ⊢
  go_enter Tryz.func6, Tryz.ntmps6
  go_wp2_with fail
  rw [← HW0.out]
  refine (HLV.out _ HB0.out).mono ?_
  rintro e w1 ⟨rfl, hb1⟩
  have H1 := Lib.hid hb1
  clear hb1
  obtain ⟨_, ⟨c0, c1, c2, c3, c4⟩, d0, d1, ⟨f0, f1, f2, f3, f4, f5⟩⟩ := HE.out w1 H1.out
  go_wp2_with fail
  refine (HFW.out f fa HXF.out.2 HXF.out.1 _ (HE.out _ H1.out).1).mono ?_
  rintro e w2 ⟨⟨b2, rfl⟩, hb2⟩
  have H2 := Lib.hid (H1.out.trans (hb2.mono H1.out.size))
  clear hb2 c0 c1 c2 c3 c4 d0 d1 f0 f1 f2 f3 f4 f5
  obtain ⟨_, ⟨c0, c1, c2, c3, c4⟩, d0, d1, ⟨f0, f1, f2, f3, f4, f5⟩⟩ := HE.out w2 H2.out
  by_cases hbb : 70 < l'.length
  · have hd : decide ((l'.length : Int) > 70) = true := by simp; omega
    cases b2 <;>
    · go_wp2_with fail
      go_ret
      exact ⟨rfl, (HE.out _ H2.out).1⟩
  have hd : decide ((l'.length : Int) > 70) = false := by simp; omega
  cases b2
  · go_wp2_with fail
    go_ret
    exact ⟨rfl, (HE.out _ H2.out).1⟩
  go_wp2_with fail
  clear hd hbb
  refine (HHD.out f fa HXF.out.2 _ (HE.out _ H2.out).1 (HXF.out.1.later (HE.out _ H2.out).1 (HE.out _ H2.out).1.size)).mono ?_
  rw [HEQ.out.1]
  rintro e w3 ⟨rfl, hb3⟩
  have H3 := Lib.hid (H2.out.trans (hb3.mono H2.out.size))
  clear hb3 c0 c1 c2 c3 c4 d0 d1 f0 f1 f2 f3 f4 f5
  obtain ⟨_, ⟨c0, c1, c2, c3, c4⟩, d0, d1, ⟨f0, f1, f2, f3, f4, f5⟩⟩ := HE.out w3 H3.out
  go_wp2_with fail
  refine (HHV.out _ (HE.out _ H3.out).1).mono ?_
  rw [HEQ.out.2.1]
  rintro e w4 ⟨rfl, hb4⟩
  have H4 := Lib.hid (H3.out.trans (hb4.mono H3.out.size))
  clear hb4 c0 c1 c2 c3 c4 d0 d1 f0 f1 f2 f3 f4 f5
  have hwr : wrap64 ((env.length : Int) - 1) = (env.length : Int) - 1 := IntWalk.wrap64_in _ (by have := HEL.out; constructor <;> omega)
  have HWR := Lib.hid hwr
  clear hwr
  go_wp2_with fail
  have HSZ := Lib.hid (HE.out _ H4.out).1.size
  go_loopw [15, 16] (fun v i wr => ∃ k : Nat, k ≤ env.length ∧ i = .int .i64 ((k : Int) - 1) ∧ Hid (Below W0.heap.size W0 wr) ∧ Hid (OwnN wr W0.heap.size (fun _ => False) 50 3 v ((env.reverse.take (env.length - k)).map Ev.toD))) (fun _ i _ => (intOf i + 1).toNat)
  case atStart => exact ⟨env.length, Nat.le_refl _, by rw [HWR.out], H4, Lib.hid (by rw [Nat.sub_self, List.take_zero]; exact OwnN.nil _ _ _ _ _ (fun _ h => h.elim))⟩
  case round =>
    obtain ⟨k, hk, rfl, HB, HO⟩ := hrel
    rcases k with _ | k
    · have e1 : (((0 : Nat) : Int) - 1) = -1 := by decide
      rw [e1]
      clear e1 hk
      have hO := HO.out
      rw [Nat.sub_zero, List.take_of_length_le (by simp)] at hO
      obtain ⟨zb, rfl, hsl⟩ := hO.onto.sl (by rw [widths_map Ev.flatT, List.length_map])
      have hll : (env.reverse.map Ev.toD).length = env.length := by simp
      rw [hll]
      have HSL := Lib.hid hsl
      clear hO hsl hll HO
      obtain ⟨_, ⟨c0, c1, c2, c3, c4⟩, d0, d1, ⟨f0, f1, f2, f3, f4, f5⟩⟩ := HE.out wr HB.out
      go_wp2_with fail
      refine (HHR.out zb _ (HE.out _ HB.out).1 HSL.out).mono ?_
      rw [HEQ.out.2.2]
      rintro e w5 ⟨rfl, hb5⟩
      have H5 := Lib.hid (HB.out.trans (hb5.mono HB.out.size))
      clear hb5 c0 c1 c2 c3 c4 d0 d1 f0 f1 f2 f3 f4 f5
      obtain ⟨a, ea⟩ := A
      obtain ⟨b, eb⟩ := B
      obtain ⟨c, ec⟩ := C
      simp only at HPL ⊢
      by_cases hea : ea = 0
      rotate_left
      · obtain ⟨rfl, rfl, hec⟩ := HPL.out.1 hea
        have q1 : (ea != 0) = true := by simp [hea]
        have q2 : (ec != 0) = true := by simpa using hec
        clear HPL hea hec
        go_wp2_with fail
        go_ret
        exact ⟨rfl, (HE.out _ H5.out).1⟩
      subst hea
      obtain ⟨hC, hst⟩ := HPL.out.2 rfl
      obtain ⟨rfl, rfl⟩ := Prod.mk.inj hC
      have HS2 := Lib.hid hst
      clear HPL hC hst
      obtain ⟨_, ⟨c0, c1, c2, c3, c4⟩, d0, d1, ⟨f0, f1, f2, f3, f4, f5⟩⟩ := HE.out w5 H5.out
      by_cases heb : eb = 0
      rotate_left
      · have q1 : (eb != 0) = true := by simp [heb]
        clear heb
        go_wp2_with fail
        go_ret
        exact ⟨by simp, (HE.out _ H5.out).1⟩
      subst heb
      go_wp2_with fail
      refine (HST.out _ (HE.out _ H5.out).1).mono ?_
      rintro e w6 ⟨rfl, hb6⟩
      have H6 := Lib.hid (H5.out.trans (hb6.mono H5.out.size))
      clear hb6 c0 c1 c2 c3 c4 d0 d1 f0 f1 f2 f3 f4 f5
      cases st
      · go_wp2_with fail
        go_ret
        exact ⟨by simp, (HE.out _ H6.out).1⟩
      · obtain rfl := HS2.out (by first | rfl | trivial) (by first | rfl | trivial)
        clear HS2
        go_wp2_with fail
        go_ret
        exact ⟨by simp, (HE.out _ H6.out).1⟩
    · have e1 : (((k + 1 : Nat) : Int) - 1) = (k : Int) := by omega
      rw [e1]
      clear e1
      obtain ⟨oa, ocap, ho⟩ := HO.out.form
      subst ho
      have hlen : ((env.reverse.take (env.length - (k + 1))).map Ev.toD).length = env.length - (k + 1) := by simp
      rw [hlen] at HO ⊢
      have hb := (HE.out _ HB.out).1
      obtain ⟨hxa, hbl⟩ := g1 (by omega)
      obtain ⟨q0, q1, q2⟩ := HC.out.three k (by omega) rfl
      have e0 := (hb.cell (p := ⟨z.b, z.o + k * 3, none⟩) hbl).trans q0
      have e1 := (hb.cell (p := ⟨z.b, z.o + k * 3 + 1, none⟩) hbl).trans q1
      have e2 := (hb.cell (p := ⟨z.b, z.o + k * 3 + 2, none⟩) hbl).trans q2
      have hkl : k < env.length := hk
      have HFJ := Lib.hid (HFN.out _ (List.getElem_mem hkl))
      have HT := Lib.hid (rev_take hkl)
      have HLN := Lib.hid hlen
      have HKL := Lib.hid hkl
      rw [hxa]
      clear q0 q1 q2 hlen hb hxa
      generalize hls : env.reverse.take (env.length - (k + 1)) = ls at HO HT HLN
      generalize hel2 : env[k] = ev at HFJ HT e0 e1 e2
      generalize hnl : env.length - (k + 1) = nl at HO HLN ⊢
      have HNL := Lib.hid (show env.length - k = nl + 1 by omega)
      have hnb : nl ≤ 1400000 := by have := HEL.out; omega
      clear hls hel2 hnl hkl
      obtain ⟨nm, so, at_⟩ := ev
      simp only at HT e0 e1 e2
      go_wp2_with (at_builtin; go_must (refine wpList_append_oneO (W0 := wr) (B := wr.heap.size) rfl (by rfl) _ _ 32 rfl 50 i0 _ 3 32 Tryz.underlying32 hi hz0 hz1 hz2 rfl (by decide) (.slice oa nl ocap) (ls.map Ev.toD) (Ev.toD ⟨nm, so, at_⟩) [.string ⟨nm.toArray⟩, .int .i64 so, .int .i64 at_] 50 rfl rfl HO.out (DsAt.flat1 (Ev.flatT.flat _) ⟨HFJ.out.1, HFJ.out.2.1, HFJ.out.2.2.1, trivial⟩) HB.out.size rfl (by rw [HLN.out]; unfold maxLen; omega) (by rw [HLN.out]; omega) ?_); intro ao cap w5 hon hb5; rw [HLN.out] at hon ⊢; have HON := Lib.hid (And.intro hon (HB.out.trans hb5)); clear hon hb5)
      have hwk : wrap64 ((k : Int) - 1) = (k : Int) - 1 := IntWalk.wrap64_in _ (by have := HKL.out; have := HEL.out; constructor <;> omega)
      rw [hwk]
      refine ⟨⟨k, by have := HKL.out; omega, rfl, Lib.hid HON.out.2, Lib.hid ?_⟩, by simp [intOf]⟩
      rw [HT.out, List.map_append]; exact HON.out.1
end Go.Proofs.YtlfjjokcbeaekaaGreatDoor
