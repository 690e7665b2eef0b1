/- Joined texts: WAdd. -/
import Derived.Test.YtlfjjokcbeaekaaGreatDoorB42
import Derived.Test.YtlfjjokcbeaekaaGreatDoorLAdd1
import Derived.Test.YtlfjjokcbeaekaaGreatDoorLAdd2
import Derived.Deep.RegionHeld3

/- EvalAdditive: where the listed variables hold what their text lays, the law returns true. (written by tools/gen_add.py) -/
namespace Go.Proofs.YtlfjjokcbeaekaaGreatDoor
open Go.RowKit Go.Chalk
theorem tup_at {w : World} {F : Nat → Prop} {ts : List (List Nat)} {x : SlA} (h : SlIn w F (tupsD ts) x) (k : Nat) (hk : k < ts.length) :
    ∃ p : SlA, SlIn w F (dints (nats ts[k])) p ∧ w.cell? ⟨x.b, x.o + k, none⟩ = some (.slice p.a ts[k].length p.cap) := by
  obtain ⟨cs, h1, h2⟩ := h.row.get (sz := 1) (fun d hd => by unfold tupsD at hd; obtain ⟨t, _, rfl⟩ := List.mem_map.1 hd; rfl) k (by simpa [tupsD] using hk)
  have e : (tupsD ts)[k]'(by simpa [tupsD] using hk) = D.sl (dints (nats ts[k])) := by simp [tupsD]
  rw [e] at h1
  obtain ⟨p, rfl, hp⟩ := DAt.sl_iff.1 h1
  refine ⟨p, hp, ?_⟩
  have := h2 0 (by simp)
  simpa [SlA.val, dints, nats] using this
theorem infoRul : (Tryz.prog.info? 66).map (fun i => (i.zero, i.size, i.bytes)) = some (some (.agg #[.string ByteArray.empty, .bool false, .int .i64 0, .slice none 0 0, .int .i64 0, .string ByteArray.empty, .int .i64 0, .slice none 0 0, .slice none 0 0, .slice none 0 0]), 10, 160) := by kernel_rfl
theorem rul_widths : ∀ l : List Rul, widths (l.map Rul.toD) = (l.map Rul.toD).length * 10
  | [] => rfl
  | r :: l => by rw [List.map_cons, widths, Rul.width, rul_widths l, List.length_cons]; omega

set_option maxRecDepth 100000 in
set_option maxHeartbeats 16000000 in
theorem add_walk (s : Schl) (x : SchA) (l : List Plc) (y : SlA) (rl : List Rul) (z : SlA) (rm : List Rul) (zm : SlA) (w : World) (hI : ItoaAt) (hf : SchFit s) (hg : GG w) (hs : SchIn w (· < w.heap.size) s x) (hy : SlIn w (· < w.heap.size) (l.map Plc.toD) y) (hl : l.length ≤ 2000000)
    (hrl : rl.length ≤ 900000) (hrf : ∀ r ∈ rl, RulFit r) (hz : SlIn w (· < w.heap.size) (rl.map Rul.toD) z) (hml : rm.length ≤ 900000) (hmf : ∀ r ∈ rm, RulFit r) (hzm : SlIn w (· < w.heap.size) (rm.map Rul.toD) zm) :
    Calls Tryz.prog 7 #[.agg (x.cells s).toArray, .agg #[.slice y.a l.length y.cap], .slice z.a rl.length z.cap, .slice zm.a rm.length zm.cap] w fun e w' => e = .returned (.bool true) ∧ Below w.heap.size w w' := by
  have haf : ∀ r ∈ rl ++ rm, RulFit r := fun r hr => by rcases List.mem_append.1 hr with h | h; exact hrf r h; exact hmf r h
  have hall : (rl ++ rm).length = rl.length + rm.length := List.length_append
  have HLV := Lib.hid (fun (W : World) (hW : Below w.heap.size w W) => live_any W hI (hg.below hW))
  have HFA := Lib.hid (fun (W : World) (hW : Below w.heap.size w W) => rfewrules_any s x rl z W hf.toSchSmall (hs.later hW hW.size) (hz.later hW hW.size) (by omega) hrf)
  have HFB := Lib.hid (fun (W : World) (hW : Below w.heap.size w W) => rfewrules_any s x rm zm W hf.toSchSmall (hs.later hW hW.size) (hzm.later hW hW.size) (by omega) hmf)
  have HJA := Lib.hid (fun (W : World) (hW : Below w.heap.size w W) => ejudge_any s x l y rl z W hI hf hrf (hg.below hW) (hs.later hW hW.size) (hy.later hW hW.size) hl (hz.later hW hW.size) (by omega))
  have HJB := Lib.hid (fun (W : World) (hW : Below w.heap.size w W) => ejudge_any s x l y rm zm W hI hf hmf (hg.below hW) (hs.later hW hW.size) (hy.later hW hW.size) hl (hzm.later hW hW.size) (by omega))
  have HJX := Lib.hid (fun (za : SlA) (W : World) (hW : Below w.heap.size w W) (hza : SlIn W (· < W.heap.size) ((rl ++ rm).map Rul.toD) za) => ejudge_any s x l y (rl ++ rm) za W hI hf haf (hg.below hW) (hs.later hW hW.size) (hy.later hW hW.size) hl hza (by omega))
  have HBX := Lib.hid (fun (za : SlA) (W : World) (hW : Below w.heap.size w W) (hza : SlIn W (· < W.heap.size) ((rl ++ rm).map Rul.toD) za) => ebroken_any s x l y (rl ++ rm) za W hI hf haf (hg.below hW) (hs.later hW hW.size) (hy.later hW hW.size) hl hza (by omega))
  have HIX := Lib.hid (fun (i : Nat) (hi : i < (rl ++ rm).length) (q : RulA) (W : World) (hW : Below w.heap.size w W) (hq : RulIn W (· < W.heap.size) (rl ++ rm)[i] q) => einsts_any s x (rl ++ rm)[i] q W hI hf (haf _ (List.getElem_mem hi)) (hg.below hW) (hs.later hW hW.size) hq)
  have HTX := Lib.hid (fun (i : Nat) (hi : i < (rl ++ rm).length) (q : RulA) (W : World) (hW : Below w.heap.size w W) (hq : RulIn W (· < W.heap.size) (rl ++ rm)[i] q) => trule_any (rl ++ rm)[i] q W hq (haf _ (List.getElem_mem hi)) (hg.below hW))
  have HHX := Lib.hid (fun (i : Nat) (hi : i < (rl ++ rm).length) (q : RulA) (t : List Nat) (ht : t.length = (rl ++ rm)[i].each.length) (ea : SlA) (W : World) (hW : Below w.heap.size w W) (hq : RulIn W (· < W.heap.size) (rl ++ rm)[i] q) (hea : SlIn W (· < W.heap.size) ((withF [] (rl ++ rm)[i].each t).map Ev.toD) ea) =>
    eholds_any s x l y (withF [] (rl ++ rm)[i].each t) ea (rl ++ rm)[i].body q.body W hI hf (haf _ (List.getElem_mem hi)).body (hg.below hW) (hs.later hW hW.size) (hy.later hW hW.size) hl hea
      (by have := (haf _ (List.getElem_mem hi)).len; simp [withF, ht]; omega)
      (fun e he => by
        unfold withF at he
        rw [List.nil_append] at he
        obtain ⟨⟨b, n⟩, hp, rfl⟩ := List.mem_map.1 he
        exact (haf _ (List.getElem_mem hi)).each b (List.of_mem_zip hp).1) hq.body)
  have HEL := Lib.hid (fun (i : Nat) (hi : i < (rl ++ rm).length) => (haf _ (List.getElem_mem hi)).len)
  have HZ := Lib.hid (And.intro hz hzm)
  have HLN := Lib.hid (And.intro hrl (And.intro hml hall))
  have HPL := Lib.hid (add_plain s l rl rm (by omega) _ _ _ rfl rfl rfl)
  obtain ⟨i0, hi, hz0, hz1, hz2⟩ := info_parts infoRul
  obtain ⟨W0, hW0⟩ : ∃ W0, W0 = (w.alloc (.cells (x.cells s).toArray 28)).alloc (.cells #[.slice y.a l.length y.cap] 31) := ⟨_, rfl⟩
  have hb0 : Below w.heap.size w W0 := by rw [hW0]; exact ((Below.refl _ _).alloc (Nat.le_refl _) _).alloc (by first | (simp; done) | (simp; omega)) _
  have hq0 : SchBox W0 w.heap.size s x := by rw [hW0]; unfold SchBox; rw [heap_get, if_neg (by first | (simp; done) | (simp; omega)), heap_get, if_pos (by first | rfl | (simp; done))]
  have hq1 : W0.heap[w.heap.size + 1]? = some (.cells #[.slice y.a l.length y.cap] 31 (0, 0)) := by rw [hW0]; rw [heap_get, if_pos (by first | rfl | (simp; done))]
  have HE : Hid (∀ w', Below W0.heap.size W0 w' → Below w.heap.size w w' ∧ (w'.cell? ⟨w.heap.size, 0, none⟩ = some (.slice x.slots.a s.slots.length x.slots.cap) ∧ w'.cell? ⟨w.heap.size, 1, none⟩ = some (.slice x.rooms.a s.rooms.length x.rooms.cap) ∧ w'.cell? ⟨w.heap.size, 2, none⟩ = some (.slice x.people.a s.people.length x.people.cap) ∧ w'.cell? ⟨w.heap.size, 3, none⟩ = some (.slice x.groups.a s.groups.length x.groups.cap) ∧ w'.cell? ⟨w.heap.size, 4, none⟩ = some (.slice x.lessons.a s.lessons.length x.lessons.cap)) ∧ w'.cell? ⟨w.heap.size + 1, 0, none⟩ = some (.slice y.a l.length y.cap)) := Lib.hid (fun W hW =>
    ⟨hb0.trans (hW.mono hb0.size), (hq0.below hW).cells, cell_of_heap ((hW.block _ (Array.getElem?_eq_some_iff.1 hq1).1).trans hq1) rfl⟩)
  have HB0 := Lib.hid hb0
  have HW0 := Lib.hid hW0
  clear hb0 hq0 hq1 hW0 hI hf hg hs hy hl hrl hrf hz hml hmf hzm haf hall
  generalize hA : evJudge s l rl = A at HPL
  generalize hBe : evJudge s l rm = B at HPL
  generalize hX : evJudge s l (rl ++ rm) = X at HPL
  have HEQ := Lib.hid (And.intro hA (And.intro hBe hX))
  clear hA hBe hX
  simp only [ndV, SchA.cells, FrmA.cells, SlA.val, List.length_append] at HFA HFB HJA HJB HJX HBX HIX HHX HW0 HE ⊢
  go_enter Tryz.func7, Tryz.ntmps7
  go_wp2_with fail
  rw [← HW0.out]
  refine (HLV.out _ HB0.out).mono ?_
  rintro e w1 ⟨rfl, hb1⟩
  have H1 := Lib.hid hb1
  clear hb1
  obtain ⟨_, ⟨c0, c1, c2, c3, c4⟩, d0⟩ := HE.out w1 H1.out
  go_wp2_with fail
  refine (HFA.out _ (HE.out _ H1.out).1).mono ?_
  rintro e w2 ⟨⟨b2, rfl⟩, hb2⟩
  have H2 := Lib.hid (H1.out.trans (hb2.mono H1.out.size))
  clear hb2 c0 c1 c2 c3 c4 d0
  cases b2
  · go_wp2_with fail
    go_ret
    exact ⟨rfl, (HE.out _ H2.out).1⟩
  obtain ⟨_, ⟨c0, c1, c2, c3, c4⟩, d0⟩ := HE.out w2 H2.out
  go_wp2_with fail
  refine (HFB.out _ (HE.out _ H2.out).1).mono ?_
  rintro e w3 ⟨⟨b3, rfl⟩, hb3⟩
  have H3 := Lib.hid (H2.out.trans (hb3.mono H2.out.size))
  clear hb3 c0 c1 c2 c3 c4 d0
  cases b3
  · go_wp2_with fail
    go_ret
    exact ⟨rfl, (HE.out _ H3.out).1⟩
  obtain ⟨_, ⟨c0, c1, c2, c3, c4⟩, d0⟩ := HE.out w3 H3.out
  by_cases hbb : 70 < l.length
  · have hd : decide ((l.length : Int) > 70) = true := by simp; omega
    go_wp2_with fail
    go_ret
    exact ⟨rfl, (HE.out _ H3.out).1⟩
  have hd : decide ((l.length : Int) > 70) = false := by simp; omega
  go_wp2_with fail
  clear hd hbb
  refine (HJA.out _ (HE.out _ H3.out).1).mono ?_
  rw [HEQ.out.1]
  rintro e w4 ⟨rfl, hb4⟩
  have H4 := Lib.hid (H3.out.trans (hb4.mono H3.out.size))
  clear hb4 c0 c1 c2 c3 c4 d0
  obtain ⟨_, ⟨c0, c1, c2, c3, c4⟩, d0⟩ := HE.out w4 H4.out
  go_wp2_with fail
  refine (HJB.out _ (HE.out _ H4.out).1).mono ?_
  rw [HEQ.out.2.1]
  rintro e w5 ⟨rfl, hb5⟩
  have H5 := Lib.hid (H4.out.trans (hb5.mono H4.out.size))
  clear hb5 c0 c1 c2 c3 c4 d0
  have hb6 : Below w5.heap.size w5 (w5.alloc (.cells #[] 66)) := (Below.refl _ _).alloc (Nat.le_refl _) _
  have h56 := (HE.out _ H5.out).1
  have HS1 : Hid (DAt (w5.alloc (.cells #[] 66)) (· < w5.heap.size) (.sl (rl.map Rul.toD)) [.slice z.a rl.length z.cap]) := Lib.hid (by have := ((HZ.out.1.later h56 h56.size).later hb6 (Nat.le_refl _)).d; rw [List.length_map] at this; exact this)
  have HS2 : Hid (DAt w5 (· < w5.heap.size) (.sl (rm.map Rul.toD)) [.slice zm.a rm.length zm.cap]) := Lib.hid (by have := (HZ.out.2.later h56 h56.size).d; rw [List.length_map] at this; exact this)
  have HO1 : Hid (Chalk.Own (w5.alloc (.cells #[] 66)) (· < w5.heap.size) 66 10 (.slice (some ⟨w5.heap.size, 0, none⟩) 0 0) (some w5.heap.size) []) := Lib.hid (Chalk.Own.lit (w := w5) (n := 0) (cs := []) rfl (by unfold maxLen; omega) rfl (by rw [DsAt]) (fun _ h => h))
  have H6 := Lib.hid hb6
  have HLA : Hid ((rl.map Rul.toD).length = rl.length ∧ (rm.map Rul.toD).length = rm.length) := Lib.hid ⟨by simp, by simp⟩
  clear hb6 h56
  go_upto_region 8 with (at_builtin; go_must (refine wpList_append_src _ (by rfl) _ _ _ rfl 66 i0 _ 10 160 Tryz.underlying55 hi hz0 hz1 hz2 rfl (by omega) (.slice (some ⟨w5.heap.size, 0, none⟩) 0 0) (.slice z.a rl.length z.cap) (· < w5.heap.size) (some w5.heap.size) [] (rl.map Rul.toD) rfl rfl HO1.out HS1.out (rul_widths _) (by have := HLN.out.1; rw [HLA.out.1]; simp; unfold maxLen; omega) (by have := HLN.out.1; rw [HLA.out.1]; simp; omega) ?_); intro oa ocap orow w7 hown hmod hat; have HOW := Lib.hid hown; have HM := Lib.hid (And.intro hmod hat); clear hown hmod hat; rw [HLA.out.1]; simp only [List.length_nil, Nat.zero_add])
  have hb7 : Below w5.heap.size w5 w7 := H6.out.trans (HM.out.1.below H6.out.size (fun k hk => by simp at hk; omega))
  have HO7 : Hid (Chalk.Own w7 (· < w5.heap.size) 66 10 (.slice oa rl.length ocap) orow (rl.map Rul.toD) ∧ ∀ k, orow = some k → w5.heap.size ≤ k) := Lib.hid ⟨by have := HOW.out; rw [List.nil_append, List.length_nil, Nat.zero_add, HLA.out.1] at this; exact this, fun k hk => by rcases HM.out.2 with h | h <;> rw [h] at hk <;> simp at hk <;> omega⟩
  have HS7 : Hid (DAt w7 (· < w5.heap.size) (.sl (rm.map Rul.toD)) [.slice zm.a rm.length zm.cap]) := Lib.hid (DAt.agree (agree_of_below hb7) _ _ HS2.out)
  have H7 := Lib.hid (And.intro hb7 (H5.out.trans (hb7.mono H5.out.size)))
  clear hb7 HOW HM HS1 HS2 HO1 H6
  go_upto_region 9 with (at_builtin; go_must (refine wpList_append_src _ (by rfl) _ _ _ rfl 66 i0 _ 10 160 Tryz.underlying55 hi hz0 hz1 hz2 rfl (by omega) (.slice oa rl.length ocap) (.slice zm.a rm.length zm.cap) (· < w5.heap.size) orow (rl.map Rul.toD) (rm.map Rul.toD) rfl rfl HO7.out.1 HS7.out (rul_widths _) (by have := HLN.out; rw [HLA.out.1, HLA.out.2]; unfold maxLen; omega) (by have := HLN.out; rw [HLA.out.1, HLA.out.2]; omega) ?_); intro ob bcap prow w8 hown hmod hat; have HOW := Lib.hid hown; have HM := Lib.hid (And.intro hmod hat); clear hown hmod hat; rw [HLA.out.1, HLA.out.2])
  have hb8 : Below w5.heap.size w5 w8 := H7.out.1.trans (HM.out.1.below H7.out.1.size (fun k hk => HO7.out.2 k hk))
  have hsl : ∃ za : SlA, Value.slice ob (rl.length + rm.length) bcap = za.val ((rl ++ rm).map Rul.toD).length ∧ SlIn w8 (· < w8.heap.size) ((rl ++ rm).map Rul.toD) za := by
    have h := HOW.out
    rw [HLA.out.1, HLA.out.2, ← List.map_append] at h
    exact h.sl h.lt (fun k hk => h.row_lt hk) (rul_widths _)
  obtain ⟨za, hza, hsz⟩ := hsl
  simp only [SlA.val, Value.slice.injEq] at hza
  obtain ⟨rfl, -, rfl⟩ := hza
  have HZA := Lib.hid hsz
  have H8 := Lib.hid (H5.out.trans (hb8.mono H5.out.size))
  clear hb8 hsz HOW HM HO7 HS7 H7
  obtain ⟨_, ⟨c0, c1, c2, c3, c4⟩, d0⟩ := HE.out w8 H8.out
  go_wp2_with fail
  refine (HJX.out za _ (HE.out _ H8.out).1 HZA.out).mono ?_
  rw [HEQ.out.2.2]
  rintro e w9 ⟨rfl, hb9⟩
  have H9 := Lib.hid (H8.out.trans (hb9.mono H8.out.size))
  have HBZ := Lib.hid hb9
  clear hb9 c0 c1 c2 c3 c4 d0
  obtain ⟨a1, a2, ea⟩ := A
  obtain ⟨b1, b2, eb⟩ := B
  obtain ⟨x1, x2, ex⟩ := X
  simp only at HPL HEQ ⊢
  by_cases hea : ea = 0
  rotate_left
  · have hex := HPL.out.1 (.inl hea)
    have q1 : (ea != 0) = true := by simp [hea]
    have q2 : (ex != 0) = true := by simpa using hex
    clear hea hex HPL
    go_wp2_with fail
    go_ret
    exact ⟨rfl, (HE.out _ H9.out).1⟩
  subst hea
  by_cases heb : eb = 0
  rotate_left
  · have hex := HPL.out.1 (.inr heb)
    have q1 : (eb != 0) = true := by simp [heb]
    have q2 : (ex != 0) = true := by simpa using hex
    clear heb hex HPL
    go_wp2_with fail
    go_ret
    exact ⟨rfl, (HE.out _ H9.out).1⟩
  subst heb
  by_cases hex : ex = 0
  rotate_left
  · rcases (HPL.out.2 rfl rfl).1 hex with rfl | rfl
    all_goals
      clear hex HPL
      go_wp2_with fail
      go_ret
      exact ⟨rfl, (HE.out _ H9.out).1⟩
  subst hex
  have HSUM := Lib.hid ((HPL.out.2 rfl rfl).2 rfl)
  have HOK := Lib.hid (add_ok (s := s) (w := l) (rl := rl ++ rm) (by rw [HEQ.out.2.2]))
  clear HPL HEQ
  obtain ⟨_, ⟨c0, c1, c2, c3, c4⟩, d0⟩ := HE.out w9 H9.out
  go_wp2_with fail
  refine (HBX.out za _ (HE.out _ H9.out).1 (HZA.out.later HBZ.out HBZ.out.size)).mono ?_
  rw [HOK.out.1]
  obtain ⟨bk, hbk⟩ : ∃ bk, bk = brokenGo s l (rl ++ rm) 0 := ⟨_, rfl⟩
  rw [← hbk]
  have HBK := Lib.hid hbk
  rintro e w10 ⟨bx, rfl, hbx, hb10⟩
  have H10 := Lib.hid (H9.out.trans (hb10.mono H9.out.size))
  have HBR : Hid (SlIn w10 (· < w10.heap.size) (bk.map instD) bx) := Lib.hid (hbx.mono (fun k hk => hk.2))
  have HZ10 : Hid (Below w8.heap.size w8 w10) := Lib.hid (HBZ.out.trans (hb10.mono HBZ.out.size))
  clear hb10 hbk hbx c0 c1 c2 c3 c4 d0
  go_wp2_with fail
  obtain ⟨N, hN⟩ : ∃ N, N = rl.length + rm.length := ⟨_, rfl⟩
  rw [← hN]
  have HN : Hid ((rl ++ rm).length = N ∧ N ≤ 1800000) := Lib.hid ⟨by rw [hN]; simp, by have := HLN.out; omega⟩
  clear hN
  go_loopw [21, 22] (fun at_ i wr => ∃ i1 : Nat, i1 ≤ N ∧ i = .int .i64 i1 ∧ at_ = .int .i64 (aheadN s l (rl ++ rm) i1 0 : Nat) ∧ Hid (Below w10.heap.size w10 wr)) (fun _ i _ => N - (intOf i).toNat)
  case atStart => exact ⟨0, Nat.zero_le _, rfl, by rw [ahead_zero]; rfl, Lib.hid (Below.refl _ _)⟩
  case round =>
    obtain ⟨i, hin, rfl, rfl, HBI⟩ := hrel
    by_cases hlt : i < N
    · have hi1 : i < (rl ++ rm).length := by have := HN.out.1; omega
      obtain ⟨q, hq1, hq2⟩ := HZA.out.rul i hi1
      obtain ⟨hxa, hFb⟩ := HZA.out.at_ (by rw [List.length_map]; omega)
      have HB8 := Lib.hid (HZ10.out.trans (HBI.out.mono HZ10.out.size))
      have HK0 : Hid (∀ W, Below w8.heap.size w8 W → CellsAt W za.b (za.o + i * 10) (q.cells (rl ++ rm)[i])) := Lib.hid (fun W hW => hq2.agree (agree_of_below hW) hFb)
      have HW8 : Hid (∀ W, Below w8.heap.size w8 W → Below w.heap.size w W) := Lib.hid (fun W hW => (HE.out _ H8.out).1.trans (hW.mono (HE.out _ H8.out).1.size))
      obtain ⟨k1, k2, k3, k4⟩ := HOK.out.2 _ (List.getElem_mem hi1)
      obtain ⟨ts, hts⟩ : ∃ ts, ts = tuplesF (sizesF s (rl ++ rm)[i].each) := ⟨_, rfl⟩
      obtain ⟨vb, hvb⟩ : ∃ vb, vb = violB s l (rl ++ rm)[i] := ⟨_, rfl⟩
      rw [← hts] at k2 k3 k4
      rw [← hvb] at k4
      have HI1 : Hid (∀ W, Below w8.heap.size w8 W → Calls Tryz.prog 19 #[.agg (x.cells s).toArray, .agg (q.cells (rl ++ rm)[i]).toArray] W fun e w' => ∃ x0 : SlA, e = .returned (.tuple #[.slice x0.a ts.length x0.cap, .int .i64 0]) ∧ SlIn w' (· < w'.heap.size) (tupsD ts) x0 ∧ Below W.heap.size W w') := Lib.hid (fun W hW => by
        have h := HIX.out i (by simpa using hi1) q W (HW8.out W hW) (hq1.later hW hW.size)
        rw [k2] at h
        exact h)
      have HT1 : Hid (∀ W, Below w8.heap.size w8 W → Calls Tryz.prog 20 #[.agg (q.cells (rl ++ rm)[i]).toArray] W fun e w' => e = .returned (.int .i64 0) ∧ Below W.heap.size W w') := Lib.hid (fun W hW => by
        have h := HTX.out i hi1 q W (HW8.out W hW) (hq1.later hW hW.size)
        rw [k1] at h
        exact h)
      have HH1 : Hid (∀ (k : Nat) (hk : k < ts.length) (ee : SlA) (W : World), Below w8.heap.size w8 W → SlIn W (· < W.heap.size) ((withF [] (rl ++ rm)[i].each ts[k]).map Ev.toD) ee → Calls Tryz.prog 11 #[.agg (x.cells s).toArray, .agg #[.slice y.a l.length y.cap], .slice ee.a (withF [] (rl ++ rm)[i].each ts[k]).length ee.cap, ndV ((rl ++ rm)[i].body, q.body)] W fun e w' => e = .returned (.tuple #[.bool (!(vb ts[k])), .int .i64 0]) ∧ Below W.heap.size W w') := Lib.hid (fun k hk ee W hW hee => by
        have hm := k4 _ (List.getElem_mem hk)
        have h := HHX.out i (by simpa using hi1) q ts[k] hm.1 ee W (HW8.out W hW) (hq1.later hW hW.size) hee
        rw [hm.2] at h
        exact h)
      have HW1 : Hid (∀ (k : Nat) (hk : k < ts.length) (p : SlA) (W : World), Below w8.heap.size w8 W → SlIn W (· < W.heap.size) (dints (nats ts[k])) p → Calls Tryz.prog 21 #[.slice none 0 0, .slice q.each.a (rl ++ rm)[i].each.length q.each.cap, .slice p.a ts[k].length p.cap] W fun e w' => ∃ ee : SlA, e = .returned (.slice ee.a (withF [] (rl ++ rm)[i].each ts[k]).length ee.cap) ∧ SlIn w' (· < w'.heap.size) ((withF [] (rl ++ rm)[i].each ts[k]).map Ev.toD) ee ∧ Below W.heap.size W w') := Lib.hid (fun k hk p W hW hp =>
        (rwith_any (rl ++ rm)[i].each q.each ts[k] p W (hq1.each.later hW hW.size) hp (by have := HEL.out i hi1; omega) (k4 _ (List.getElem_mem hk)).1).mono (by
          rintro e w' ⟨v, rfl, hon, hb⟩
          obtain ⟨ee, rfl, he⟩ := hon.onto.sl (by rw [widths_map Ev.flatT, List.length_map])
          rw [List.length_map]
          exact ⟨ee, rfl, he, hb⟩))
      have HAT : Hid (∀ (k : Nat) (hk : k < ts.length), (bk[aheadN s l (rl ++ rm) i k]? = some (i, ts[k]) ↔ vb ts[k] = true) ∧ aheadN s l (rl ++ rm) i (k + 1) = aheadN s l (rl ++ rm) i k + (if vb ts[k] then 1 else 0)) := Lib.hid (fun k hk => by
        subst hvb hts
        rw [HBK.out]
        exact ⟨broken_at s l (rl ++ rm) i k hi1 hk, ahead_succ s l (rl ++ rm) i k hi1 hk⟩)
      have HNX : Hid (aheadN s l (rl ++ rm) (i + 1) 0 = aheadN s l (rl ++ rm) i ts.length) := Lib.hid (by rw [hts]; exact ahead_next s l (rl ++ rm) i hi1)
      have HTL : Hid (ts.length ≤ 4096 ∧ ∀ (k : Nat) (hk : k < ts.length), ts[k].length ≤ 2000000) := Lib.hid ⟨k3, fun k hk => by have := (k4 _ (List.getElem_mem hk)).1; have := HEL.out i hi1; omega⟩
      rw [hxa]
      clear hq1 hq2 hxa hFb k1 k2 k3 k4 hts hvb
      generalize (rl ++ rm)[i] = re at HK0 HI1 HT1 HH1 HW1
      obtain ⟨name, hard, weight, each, ⟨kind, fname, fn, terms, binds, fl⟩⟩ := re
      obtain ⟨ye, yb⟩ := q
      simp only [ndV, RulA.cells, SchA.cells, FrmA.cells, SlA.val, Frm.kind, Frm.name, Frm.n, Frm.terms, Frm.binds, Frm.l] at HK0 HI1 HT1 HH1 HW1
      have HXS : Hid (∀ W, Below wr.heap.size wr W → (W.cell? ⟨w.heap.size, 0, none⟩ = some (.slice x.slots.a s.slots.length x.slots.cap) ∧ W.cell? ⟨w.heap.size, 1, none⟩ = some (.slice x.rooms.a s.rooms.length x.rooms.cap) ∧ W.cell? ⟨w.heap.size, 2, none⟩ = some (.slice x.people.a s.people.length x.people.cap) ∧ W.cell? ⟨w.heap.size, 3, none⟩ = some (.slice x.groups.a s.groups.length x.groups.cap) ∧ W.cell? ⟨w.heap.size, 4, none⟩ = some (.slice x.lessons.a s.lessons.length x.lessons.cap)) ∧ (W.cell? ⟨za.b, za.o + i * 10, none⟩ = some (.string ⟨name.toArray⟩) ∧ W.cell? ⟨za.b, za.o + i * 10 + 1, none⟩ = some (.bool hard) ∧ W.cell? ⟨za.b, za.o + i * 10 + 2, none⟩ = some (.int .i64 weight) ∧ W.cell? ⟨za.b, za.o + i * 10 + 3, none⟩ = some (.slice ye.a each.length ye.cap) ∧ W.cell? ⟨za.b, za.o + i * 10 + 4, none⟩ = some (.int .i64 kind) ∧ W.cell? ⟨za.b, za.o + i * 10 + 5, none⟩ = some (.string ⟨fname.toArray⟩) ∧ W.cell? ⟨za.b, za.o + i * 10 + 6, none⟩ = some (.int .i64 fn) ∧ W.cell? ⟨za.b, za.o + i * 10 + 7, none⟩ = some (.slice yb.t.a terms.length yb.t.cap) ∧ W.cell? ⟨za.b, za.o + i * 10 + 8, none⟩ = some (.slice yb.b.a binds.length yb.b.cap) ∧ W.cell? ⟨za.b, za.o + i * 10 + 9, none⟩ = some (.slice yb.l.a fl.length yb.l.cap))) := Lib.hid (fun W hW => by
        obtain ⟨_, ⟨c0, c1, c2, c3, c4⟩, d0⟩ := HE.out W (H10.out.trans ((HBI.out.trans (hW.mono HBI.out.size)).mono H10.out.size))
        exact ⟨⟨c0, c1, c2, c3, c4⟩, (HK0.out W (HB8.out.trans (hW.mono HB8.out.size))).ten⟩)
      have hiN : (i : Int) < (N : Int) := by omega
      go_wp2_with fail
      go_region_held3 (fun w' => (w'.cell? ⟨w.heap.size, 0, none⟩ = some (.slice x.slots.a s.slots.length x.slots.cap) ∧ w'.cell? ⟨w.heap.size, 1, none⟩ = some (.slice x.rooms.a s.rooms.length x.rooms.cap) ∧ w'.cell? ⟨w.heap.size, 2, none⟩ = some (.slice x.people.a s.people.length x.people.cap) ∧ w'.cell? ⟨w.heap.size, 3, none⟩ = some (.slice x.groups.a s.groups.length x.groups.cap) ∧ w'.cell? ⟨w.heap.size, 4, none⟩ = some (.slice x.lessons.a s.lessons.length x.lessons.cap)) ∧ (w'.cell? ⟨za.b, za.o + i * 10, none⟩ = some (.string ⟨name.toArray⟩) ∧ w'.cell? ⟨za.b, za.o + i * 10 + 1, none⟩ = some (.bool hard) ∧ w'.cell? ⟨za.b, za.o + i * 10 + 2, none⟩ = some (.int .i64 weight) ∧ w'.cell? ⟨za.b, za.o + i * 10 + 3, none⟩ = some (.slice ye.a each.length ye.cap) ∧ w'.cell? ⟨za.b, za.o + i * 10 + 4, none⟩ = some (.int .i64 kind) ∧ w'.cell? ⟨za.b, za.o + i * 10 + 5, none⟩ = some (.string ⟨fname.toArray⟩) ∧ w'.cell? ⟨za.b, za.o + i * 10 + 6, none⟩ = some (.int .i64 fn) ∧ w'.cell? ⟨za.b, za.o + i * 10 + 7, none⟩ = some (.slice yb.t.a terms.length yb.t.cap) ∧ w'.cell? ⟨za.b, za.o + i * 10 + 8, none⟩ = some (.slice yb.b.a binds.length yb.b.cap) ∧ w'.cell? ⟨za.b, za.o + i * 10 + 9, none⟩ = some (.slice yb.l.a fl.length yb.l.cap))) ((refine HXS.out _ ?_; first | exact HC1.out.1 | exact (Below.refl _ _).drew | fail)) (first
        | (go_at_call 19; refine (HI1.out _ HB8.out.drew).mono ?_; rintro e w11 ⟨x0, rfl, hx0, hbb⟩; have HC1 := Lib.hid (And.intro ((Below.refl _ _).drew.trans hbb) (And.intro hx0 (HB8.out.drew.trans (hbb.mono HB8.out.drew.size)))); clear hbb hx0))
      all_goals
        obtain ⟨e0, e1, e2, e3, e4, e5, e6, e7, e8, e9⟩ := (HK0.out w11 HC1.out.2.2).ten
        go_wp2_with fail
        refine (HT1.out w11 HC1.out.2.2).mono ?_
        rintro e w12 ⟨rfl, hb12⟩
        have HX12 := Lib.hid (HC1.out.2.1.later hb12 hb12.size)
        have HB12 := Lib.hid (HC1.out.2.2.trans (hb12.mono HC1.out.2.2.size))
        have HR12 := Lib.hid ((HC1.out.1.mono (Nat.le_refl _)).trans (hb12.mono (HC1.out.1.mono (Nat.le_refl _)).size))
        clear hb12 e0 e1 e2 e3 e4 e5 e6 e7 e8 e9 HXS hiN
        go_wp2_with fail
        obtain ⟨wo, hwo⟩ : ∃ wo, wo = w12 := ⟨_, rfl⟩
        rw [← hwo] at HX12 HB12 HR12
        have hbo : Below wo.heap.size wo w12 := by rw [hwo]; exact Below.refl _ _
        have HBO := Lib.hid hbo
        have HT10 := Lib.hid (HBI.out.trans (HR12.out.mono HBI.out.size))
        clear hwo hbo HC1
        go_loopw [21, 25] (fun at_ k wi => ∃ k1 : Nat, k1 ≤ ts.length ∧ k = .int .i64 k1 ∧ at_ = .int .i64 (aheadN s l (rl ++ rm) i k1 : Nat) ∧ Hid (Below wo.heap.size wo wi)) (fun _ k _ => ts.length - (intOf k).toNat)
        case atStart => exact ⟨0, Nat.zero_le _, rfl, rfl, HBO⟩
        case round =>
          clear HBO
          obtain ⟨k, hk, rfl, rfl, HBK2⟩ := hrel
          have HBW := Lib.hid (HB12.out.trans (HBK2.out.mono HB12.out.size))
          by_cases hkt : k < ts.length
          · obtain ⟨p, hp, hpc⟩ := tup_at HX12.out k hkt
            obtain ⟨hxt, hxb⟩ := HX12.out.at_ (by simp [tupsD]; omega)
            have HWE : Hid (∀ W, Below wr.heap.size wr W → Below W0.heap.size W0 W ∧ Below w8.heap.size w8 W ∧ Below wo.heap.size wo W ∧ Below w10.heap.size w10 W) := Lib.hid (fun W hW => by
              have h1 := HBW.out.trans (hW.mono HBW.out.size)
              have h2 := HBK2.out.trans (hW.mono HBK2.out.size)
              exact ⟨H8.out.trans (h1.mono H8.out.size), h1, h2, HT10.out.trans (h2.mono HT10.out.size)⟩)
            have HP := Lib.hid hp
            have HWK := Lib.hid (HW1.out k hkt p)
            have HHK := Lib.hid (HH1.out k hkt)
            have HATK := Lib.hid (HAT.out k hkt)
            have htl := HTL.out.2 k hkt
            have hkl : (k : Int) < (ts.length : Int) := by omega
            have htn : ts.length ≤ 4096 := HTL.out.1
            have HXC : Hid (∀ W, Below wr.heap.size wr W → W.cell? ⟨x0.b, x0.o + k, none⟩ = some (.slice p.a ts[k].length p.cap)) := Lib.hid (fun W hW => ((HWE.out W hW).2.2.1.cell (p := ⟨x0.b, x0.o + k, none⟩) hxb).trans hpc)
            rw [hxt]
            clear hp hpc hxt hxb
            generalize ts[k] = t at HP HWK HHK HATK htl HXC
            generalize vb t = v at HHK HATK
            generalize aheadN s l (rl ++ rm) i k = av at HATK ⊢
            have HXS : Hid (∀ W, Below wr.heap.size wr W → (W.cell? ⟨w.heap.size, 0, none⟩ = some (.slice x.slots.a s.slots.length x.slots.cap) ∧ W.cell? ⟨w.heap.size, 1, none⟩ = some (.slice x.rooms.a s.rooms.length x.rooms.cap) ∧ W.cell? ⟨w.heap.size, 2, none⟩ = some (.slice x.people.a s.people.length x.people.cap) ∧ W.cell? ⟨w.heap.size, 3, none⟩ = some (.slice x.groups.a s.groups.length x.groups.cap) ∧ W.cell? ⟨w.heap.size, 4, none⟩ = some (.slice x.lessons.a s.lessons.length x.lessons.cap)) ∧ W.cell? ⟨w.heap.size + 1, 0, none⟩ = some (.slice y.a l.length y.cap) ∧ W.cell? ⟨za.b, za.o + i * 10 + 3, none⟩ = some (.slice ye.a each.length ye.cap) ∧ W.cell? ⟨za.b, za.o + i * 10 + 4, none⟩ = some (.int .i64 kind) ∧ W.cell? ⟨za.b, za.o + i * 10 + 5, none⟩ = some (.string ⟨fname.toArray⟩) ∧ W.cell? ⟨za.b, za.o + i * 10 + 6, none⟩ = some (.int .i64 fn) ∧ W.cell? ⟨za.b, za.o + i * 10 + 7, none⟩ = some (.slice yb.t.a terms.length yb.t.cap) ∧ W.cell? ⟨za.b, za.o + i * 10 + 8, none⟩ = some (.slice yb.b.a binds.length yb.b.cap) ∧ W.cell? ⟨za.b, za.o + i * 10 + 9, none⟩ = some (.slice yb.l.a fl.length yb.l.cap) ∧ W.cell? ⟨x0.b, x0.o + k, none⟩ = some (.slice p.a t.length p.cap)) := Lib.hid (fun W hW => by
              obtain ⟨_, ⟨c0, c1, c2, c3, c4⟩, d0⟩ := HE.out W (HWE.out W hW).1
              obtain ⟨e0, e1, e2, e3, e4, e5, e6, e7, e8, e9⟩ := (HK0.out W (HWE.out W hW).2.1).ten
              exact ⟨⟨c0, c1, c2, c3, c4⟩, d0, e3, e4, e5, e6, e7, e8, e9, HXC.out W hW⟩)
            go_wp2_with fail
            go_region_held3 (fun w' => (w'.cell? ⟨w.heap.size, 0, none⟩ = some (.slice x.slots.a s.slots.length x.slots.cap) ∧ w'.cell? ⟨w.heap.size, 1, none⟩ = some (.slice x.rooms.a s.rooms.length x.rooms.cap) ∧ w'.cell? ⟨w.heap.size, 2, none⟩ = some (.slice x.people.a s.people.length x.people.cap) ∧ w'.cell? ⟨w.heap.size, 3, none⟩ = some (.slice x.groups.a s.groups.length x.groups.cap) ∧ w'.cell? ⟨w.heap.size, 4, none⟩ = some (.slice x.lessons.a s.lessons.length x.lessons.cap)) ∧ w'.cell? ⟨w.heap.size + 1, 0, none⟩ = some (.slice y.a l.length y.cap) ∧ w'.cell? ⟨za.b, za.o + i * 10 + 3, none⟩ = some (.slice ye.a each.length ye.cap) ∧ w'.cell? ⟨za.b, za.o + i * 10 + 4, none⟩ = some (.int .i64 kind) ∧ w'.cell? ⟨za.b, za.o + i * 10 + 5, none⟩ = some (.string ⟨fname.toArray⟩) ∧ w'.cell? ⟨za.b, za.o + i * 10 + 6, none⟩ = some (.int .i64 fn) ∧ w'.cell? ⟨za.b, za.o + i * 10 + 7, none⟩ = some (.slice yb.t.a terms.length yb.t.cap) ∧ w'.cell? ⟨za.b, za.o + i * 10 + 8, none⟩ = some (.slice yb.b.a binds.length yb.b.cap) ∧ w'.cell? ⟨za.b, za.o + i * 10 + 9, none⟩ = some (.slice yb.l.a fl.length yb.l.cap) ∧ w'.cell? ⟨x0.b, x0.o + k, none⟩ = some (.slice p.a t.length p.cap)) ((refine HXS.out _ ?_; first | exact HC2.out.1 | exact HC1.out.1 | exact (Below.refl _ _).drew | fail)) (first
              | (go_at_call 11; refine (HHK.out ee _ (HWE.out _ HC1.out.1).2.1 HC1.out.2).mono ?_; rintro e w14 ⟨rfl, hbb⟩; have HC2 := Lib.hid (And.intro (HC1.out.1.trans (hbb.mono HC1.out.1.size)) trivial); clear hbb)
              | (go_at_call 21; refine (HWK.out _ (HWE.out _ (Below.refl _ _).drew).2.1 (HP.out.later (HWE.out _ (Below.refl _ _).drew).2.2.1 (HWE.out _ (Below.refl _ _).drew).2.2.1.size)).mono ?_; rintro e w13 ⟨ee, rfl, hee, hbb⟩; have HC1 := Lib.hid (And.intro ((Below.refl _ _).drew.trans hbb) hee); clear hbb hee))
            all_goals
              have HBW2 := Lib.hid (HC2.out.1.mono (Nat.le_refl _))
              clear HXS HC1 HC2
              go_wp2_with fail
              by_cases hab : av < bk.length
              · obtain ⟨y0, hy0, z0, hc0⟩ := HBR.out.inst av hab
                obtain ⟨hba, hbb⟩ := HBR.out.at_ (by simp; omega)
                have hble := HBR.out.le
                rw [List.length_map] at hble
                have hmx := HBR.out.max
                unfold maxLen at hmx
                have hcv : (decide (bk[av].1 = i) && decide (bk[av].2 = t)) = v := by
                  have h := HATK.out.1
                  rw [List.getElem?_eq_getElem hab] at h
                  rw [Bool.eq_iff_iff, Bool.and_eq_true, decide_eq_true_eq, decide_eq_true_eq, ← h, Option.some.injEq, Prod.ext_iff]
                have HBT : Hid (∀ W, Below wr.heap.size wr W → W.cell? ⟨bx.b, bx.o + av * 6, none⟩ = some (.int .i64 (bk[av].1 : Nat)) ∧ W.cell? ⟨bx.b, bx.o + av * 6 + 1, none⟩ = some (.slice y0.a bk[av].2.length y0.cap) ∧ bx.b < W.heap.size ∧ SlIn W (· < W.heap.size) (dints (nats bk[av].2)) y0) := Lib.hid (fun W hW => by
                  have h := (HWE.out W hW).2.2.2
                  obtain ⟨g0, g1, _⟩ := (hc0.agree (agree_of_below h) hbb).six
                  exact ⟨g0, g1, Nat.lt_of_lt_of_le hbb h.size, hy0.later h h.size⟩)
                generalize bk[av].1 = bi at hcv HBT
                generalize bk[av].2 = bt at hcv HBT
                have HSM : Hid (Calls Tryz.prog 22 #[.slice (some ⟨bx.b, bx.o + av * 6, none⟩) 1 (bx.cap - av), .slice (some ⟨w14.heap.size, 0, none⟩) 1 1] (w14.alloc (.cells #[.int .i64 (i : Nat), .slice p.a t.length p.cap, .int .i64 0, .int .i64 0, .int .i64 0, .slice none 0 0] 75)).drew fun e w' => e = .returned (.bool v) ∧ Below w14.heap.size w14 w') := Lib.hid (by
                  obtain ⟨Wc, hWc⟩ : ∃ Wc, Wc = (w14.alloc (.cells #[.int .i64 (i : Nat), .slice p.a t.length p.cap, .int .i64 0, .int .i64 0, .int .i64 0, .slice none 0 0] 75)).drew := ⟨_, rfl⟩
                  have hbc : Below w14.heap.size w14 Wc := by rw [hWc]; exact ((Below.refl _ _).alloc (Nat.le_refl _) _).drew
                  have hcz : Wc.heap.size = w14.heap.size + 1 := by rw [hWc]; simp
                  have hnew : Wc.heap[w14.heap.size]? = some (.cells #[.int .i64 (i : Nat), .slice p.a t.length p.cap, .int .i64 0, .int .i64 0, .int .i64 0, .slice none 0 0] 75 (0, 0)) := by rw [hWc]; show (w14.alloc _).heap[w14.heap.size]? = _; rw [heap_get, if_pos rfl]
                  rw [← hWc]
                  have hrc := HBW2.out.trans (hbc.mono HBW2.out.size)
                  obtain ⟨g0, g1, g2, g3⟩ := HBT.out Wc hrc
                  have hpc := HP.out.later (HWE.out Wc hrc).2.2.1 (HWE.out Wc hrc).2.2.1.size
                  refine (rsame_one bi i bt t bx.b (bx.o + av * 6) (bx.cap - av) w14.heap.size 0 1 y0 p Wc g2 (by omega) htl g0 g1 (cell_of_heap hnew rfl) (cell_of_heap hnew rfl) g3 hpc).mono ?_
                  rintro e w' ⟨rfl, hb⟩
                  rw [hcv]
                  exact ⟨rfl, hbc.trans (hb.mono hbc.size)⟩)
                have HBA := Lib.hid hba
                rw [hba]
                clear hy0 hc0 hba hbb hcv HBT HBR
                have hw1 : IntKind.i64.wrap ((av : Int) + 1) = (av : Int) + 1 := IntWalk.i64_in _ (by omega)
                have ha1 : (av : Int) < (bk.length : Int) := by omega
                have ha2 : (av : Int) + 1 ≤ (bx.cap : Int) := by omega
                have ha3 : (0 : Int) ≤ (av : Int) + 1 := by omega
                have ha4 : ((av : Int) + 1).toNat = av + 1 := by omega
                have ha5 : (av : Int) ≤ (av : Int) + 1 := by omega
                have hxc := HXC.out w14 HBW2.out
                have ha6 : ¬ (bx.cap = av) := by omega
                go_region_held3 (fun w' => w'.cell? ⟨x0.b, x0.o + k, none⟩ = some (.slice p.a t.length p.cap)) ((refine HXC.out _ ?_; first | exact HBW2.out.trans (HC3.out.mono HBW2.out.size) | exact HBW2.out | exact HBW2.out.drew | exact HBW2.out.alloc HBW2.out.size _ | exact (HBW2.out.alloc HBW2.out.size _).drew | exact HBW2.out.drew.alloc HBW2.out.size _ | fail)) (first
                  | (go_at_call 22; (with_reducible refine HSM.out.mono ?_); rintro e w15 ⟨rfl, hbb⟩; have HC3 := Lib.hid hbb; clear hbb))
                all_goals
                  clear hw1 ha1 ha2 ha3 ha4 ha5 ha6 hxc
                  have HB15 := Lib.hid (HBK2.out.trans ((HBW2.out.trans (HC3.out.mono HBW2.out.size)).mono HBK2.out.size))
                  rw [← HBA.out]
                  have hvn : av < 9223372036854775807 := by omega
                  cases v
                  · go_wp2_with fail
                    exact ⟨⟨k + 1, by omega, by go_num, by rw [HATK.out.2]; simp, HB15⟩, by simp [intOf]; omega⟩
                  · go_wp2_with fail
                    exact ⟨⟨k + 1, by omega, by go_num, by rw [HATK.out.2]; first | (simp; done) | (simp; go_num), HB15⟩, by simp [intOf]; omega⟩
              · have hv : v = false := by
                  cases v
                  · rfl
                  · have h := HATK.out.1.2 rfl
                    rw [List.getElem?_eq_none (by omega)] at h; cases h
                subst hv
                have ha1 : decide ((av : Int) < (bk.length : Int)) = false := by simp; omega
                go_quiet (fail)
                have HB15 : Hid (Below wo.heap.size wo (w14.drewN nq)) := Lib.hid (by have h := HBK2.out.trans (HBW2.out.mono HBK2.out.size); exact ⟨h.os, h.tape, h.output, h.size, h.block⟩)
                go_wp2_with fail
                exact ⟨⟨k + 1, by omega, by go_num, by rw [HATK.out.2]; simp, HB15⟩, by simp [intOf]; omega⟩
          · obtain rfl : k = ts.length := by omega
            have HBE := Lib.hid (HT10.out.trans (HBK2.out.mono HT10.out.size))
            have hN2 : N ≤ 1800000 := HN.out.2
            go_wp2_with fail
            exact ⟨⟨i + 1, by omega, by go_num, by rw [HNX.out], HBE⟩, by simp [intOf]; omega⟩
    · obtain rfl : i = N := by omega
      have hend : aheadN s l (rl ++ rm) i 0 = bk.length := by rw [HBK.out, ← ahead_end, HN.out.1]
      rw [hend]
      clear hend hin hlt
      have q1 : (((x1 : Nat) : Int) == wrap64 ((a1 : Int) + (b1 : Int))) = true := by
        obtain ⟨s1, s2, s3, s4, s5⟩ := HSUM.out
        rw [IntWalk.wrap64_in _ (by omega), s1]; simp
      have q2 : (x2 == wrap64 (a2 + b2)) = true := by
        obtain ⟨s1, s2, s3, s4, s5⟩ := HSUM.out
        rw [IntWalk.wrap64_in _ (by omega), s2]; simp
      have HBE := Lib.hid (HE.out _ (H10.out.trans (HBI.out.mono H10.out.size))).1
      go_wp2_with fail
      go_ret
      exact ⟨ret_bool (by simp [q1, q2]), HBE.out⟩
end Go.Proofs.YtlfjjokcbeaekaaGreatDoor
