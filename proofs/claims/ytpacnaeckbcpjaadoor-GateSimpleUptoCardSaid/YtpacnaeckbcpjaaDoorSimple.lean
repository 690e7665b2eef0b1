/- flat.kept over trees, the list itself; flat.join, flat.made, flat.Simple. -/
import Derived.Test.YtpacnaeckbcpjaaDoorSimpleLaw
import Derived.Test.YtpacnaeckbcpjaaDoorAppendSrc
import Derived.Test.YtpacnaeckbcpjaaDoorLive
import Derived.Test.YtpacnaeckbcpjaaDoorCheck
import Derived.Deep.RegionHeld3
namespace Go.Chalk
open Go.RowKit
theorem agreeF_of_below {F : Nat → Prop} {w w' : World} (hb : Below w.heap.size w w') (hF : ∀ k, F k → k < w.heap.size) : Agree F w w' := fun k hk => hb.block k (hF k hk)
theorem TreesIn.atF {w w' : World} {F : Nat → Prop} {l : List Tr} {b o : Nat} (h : TreesIn w F l b o) (hb : Below w.heap.size w w') (hF : ∀ k, F k → k < w.heap.size) (hbl : F b) (i : Nat) (hi : i < l.length) :
    ∃ k0 k1 k2 a n cap, w'.cell? ⟨b, o + i * 4, none⟩ = some (.int .i64 k0) ∧ w'.cell? ⟨b, o + i * 4 + 1, none⟩ = some (.int .i64 k1) ∧ w'.cell? ⟨b, o + i * 4 + 2, none⟩ = some (.int .i64 k2) ∧ w'.cell? ⟨b, o + i * 4 + 3, none⟩ = some (.slice a n cap) ∧
        TreeV w F l[i] (.agg #[.int .i64 k0, .int .i64 k1, .int .i64 k2, .slice a n cap]) := by
  obtain ⟨k0, k1, k2, a', n', cap', g0, g1, g2, g3, g4⟩ := h i hi
  have hbl' := hF b hbl
  exact ⟨k0, k1, k2, a', n', cap', (hb.cell (p := ⟨b, o + i * 4, none⟩) hbl').trans g0, (hb.cell (p := ⟨b, o + i * 4 + 1, none⟩) hbl').trans g1, (hb.cell (p := ⟨b, o + i * 4 + 2, none⟩) hbl').trans g2, (hb.cell (p := ⟨b, o + i * 4 + 3, none⟩) hbl').trans g3, g4⟩
theorem alloc2_0 (w : World) (a b : Obj) : ((w.alloc a).alloc b).heap[w.heap.size]? = some a := (Below.heap_alloc _ _ _ (by simp)).trans (heap_alloc_new w a)
theorem alloc2_1 (w : World) (a b : Obj) : ((w.alloc a).alloc b).heap[w.heap.size + 1]? = some b := by
  have := heap_alloc_new (w.alloc a) b
  simpa using this
/-- A store of four cells. -/
def put4 (W : World) (H : Nat) (c0 c1 c2 c3 : Value) : World := (((W.setCell ⟨H, 0, none⟩ c0).setCell ⟨H, 1, none⟩ c1).setCell ⟨H, 2, none⟩ c2).setCell ⟨H, 3, none⟩ c3
theorem put4_size (W : World) (H : Nat) (c0 c1 c2 c3 : Value) : (put4 W H c0 c1 c2 c3).heap.size = W.heap.size := by simp [put4]
theorem put4_below {w W : World} {H : Nat} (c0 c1 c2 c3 : Value) (hb : Below w.heap.size w W) (hH : w.heap.size ≤ H) : Below w.heap.size w (put4 W H c0 c1 c2 c3) :=
  (((hb.setCell (p := ⟨H, 0, none⟩) hH _).setCell (p := ⟨H, 1, none⟩) hH _).setCell (p := ⟨H, 2, none⟩) hH _).setCell (p := ⟨H, 3, none⟩) hH _
theorem put4_tree {W : World} {G : Nat → Prop} {t : Tr} {y : Value} {H : Nat} (c0 c1 c2 c3 : Value) (ht : TreeV W G t y) (hG : ¬ G H) : TreeV (put4 W H c0 c1 c2 c3) G t y := by
  refine ht.agree (fun k hk => ?_)
  have hne : k ≠ H := fun e => hG (e ▸ hk)
  unfold put4
  rw [Below.heap_setCell _ _ _ _ hne, Below.heap_setCell _ _ _ _ hne, Below.heap_setCell _ _ _ _ hne, Below.heap_setCell _ _ _ _ hne]
theorem TreeV.const {w : World} {F : Nat → Prop} {n : Int} (h : I64 n) : TreeV w F (constT n) (.agg #[.int .i64 1, .int .i64 n, .int .i64 0, .slice none 0 0]) :=
  ⟨_, _, _, _, rfl, Tr.at (l := []) DAt.nil (by unfold I64; omega) h (by unfold I64; omega)⟩
/-- F, and what is new since w. -/
def Plus (F : Nat → Prop) (w w' : World) (k : Nat) : Prop := F k ∨ (w.heap.size ≤ k ∧ k < w'.heap.size)
theorem put4_fin {w W : World} {F G : Nat → Prop} {t : Tr} {y : Value} {H : Nat} {c0 c1 c2 c3 : Value} (hb : Below w.heap.size w W) (hH : w.heap.size ≤ H) (ht : TreeV W G t y) (hG : ¬ G H) (hGP : ∀ k, G k → Plus F w W k) :
    TreeV (put4 W H c0 c1 c2 c3) (Plus F w (put4 W H c0 c1 c2 c3)) t y ∧ Below w.heap.size w (put4 W H c0 c1 c2 c3) :=
  ⟨(put4_tree _ _ _ _ ht hG).mono (fun k hk => by have := hGP k hk; unfold Plus at this ⊢; rwa [put4_size]), put4_below _ _ _ _ hb hH⟩
theorem trees_widths : ∀ xs : List Tr, widths (xs.map Tr.toD) = xs.length * 4
  | [] => rfl
  | x :: r => by
    have := trees_widths r
    simp only [List.map_cons, widths, Tr.width, List.length_cons]; omega
end Go.Chalk
namespace Go.Proofs.YtpacnaeckbcpjaaDoor
open Go.RowKit Go.Chalk

set_option maxRecDepth 100000 in
set_option maxHeartbeats 1000000 in
theorem kept_any (f : FuncId) (lb : Array Value) (p : Tr → Bool) (l : List Tr) (a : Option Addr) (b o cap : Nat) (w : World) (F : Nat → Prop) (hF : ∀ k, F k → k < w.heap.size) (hsl : SlAt F a b o l.length) (hin : TreesIn w F l b o) (hp : PredAt f lb p w l b o)
    (hent : ∀ (args : Array Value) (w : World), (callFunc f args).run Tryd.prog w = .ok (.enter f args) w) (hmax : l.length ≤ 2000000) :
    Calls Tryd.prog 26 #[.slice a l.length cap, .func (.func f) #[] lb] w fun e w' => ∃ a' c' q, e = .returned (.slice a' (l.filter p).length c') ∧ Chalk.Own w' F 24 4 (.slice a' (l.filter p).length c') q ((l.filter p).map Tr.toD) ∧ (∀ k, q = some k → w.heap.size ≤ k) ∧ Below w.heap.size w w' := by
  have HIN := Lib.hid hin
  have HP := Lib.hid hp
  have HF := Lib.hid hF
  clear hin hp hF
  obtain ⟨i2, hi2, ht0, ht1, ht2⟩ := info_parts tree_info2
  go_enter Tryd.func26, Tryd.ntmps26
  go_wp2_with fail
  go_loopw [9, 4, 6] (fun i ov _ wr => ∃ (j : Nat) (q : Option Nat), i = .int .i64 j ∧ j ≤ l.length ∧ Chalk.Own wr F 24 4 ov q (((l.take j).filter p).map Tr.toD) ∧ Hid (∀ k, q = some k → w.heap.size ≤ k) ∧ Below w.heap.size w wr) (fun i _ _ _ => l.length - (intOf i).toNat)
  case atStart => exact ⟨0, none, rfl, Nat.zero_le _, Chalk.Own.nil _ _ _ _ HF.out, (fun _ h => by cases h), Below.refl _ _⟩
  case round =>
    obtain ⟨j, q, rfl, hj, O, HQ, hb⟩ := hrel
    have hbs := hb.size
    obtain ⟨oa, ocap, hov⟩ := O.form
    rw [List.length_map] at hov
    subst hov
    by_cases hlt : j < l.length
    · obtain ⟨rfl, hbl⟩ := hsl (by omega)
      obtain ⟨k0, k1, k2, a1, n1, cap1, e0, e1, e2, e3, htj⟩ := TreesIn.atF HIN.out hb HF.out hbl j hlt
      have HCA := Lib.hid (HP.out j hlt (wr.alloc (.cells #[.int .i64 k0, .int .i64 k1, .int .i64 k2, .slice a1 n1 cap1] 24)) (hb.alloc hbs _) k0 k1 k2 a1 n1 cap1 ((htj.mono HF.out).agree (agree_of_below (hb.alloc hbs _))))
      have htk : (l.take (j + 1)).filter p = (l.take j).filter p ++ if p l[j] then [l[j]] else [] := by
        rw [List.take_succ_eq_append_getElem hlt, List.filter_append]; congr 1; simp [List.filter_cons]
      have hle : ((l.take j).filter p).length ≤ 2000000 := by
        have := List.length_filter_le p (l.take j)
        simp at this; omega
      have HTK := Lib.hid htk
      have HO := Lib.hid O
      have HB := Lib.hid hb
      have HTJ := Lib.hid htj
      clear htk O hb htj
      go_wp2_with fail
      refine HCA.out.mono ?_
      rintro e w2 ⟨rfl, hb2⟩
      obtain ⟨z0, z1, z2, z3⟩ := boxed4 hb2 (by simp)
      have HBA := Lib.hid (Below.ahead hb2 (by simp))
      have HB2 := Lib.hid (HB.out.trans (HBA.out.mono hbs))
      have hs2 : wr.heap.size < w2.heap.size := by have := hb2.size; simp at this; omega
      have HO2 := Lib.hid (HO.out.below HBA.out)
      clear hb2
      have hTK := HTK.out
      generalize p l[j] = r at hTK ⊢
      have HTK2 := Lib.hid hTK
      clear hTK HTK
      cases r
      · go_wp2_with fail
        have h1 := HTK2.out
        simp only [Bool.false_eq_true, if_false, List.append_nil] at h1
        exact ⟨⟨j + 1, q, by go_num, by omega, by rw [h1]; exact HO2.out, HQ, HB2.out⟩, by simp [intOf]; omega⟩
      · have h1 := HTK2.out
        simp only [if_true] at h1
        have HH1 := Lib.hid h1
        clear h1
        obtain ⟨cs0, hrow0, hds0⟩ := HO2.out.cells
        rw [List.length_map] at hrow0
        have HROW : Hid ((w2.alloc (.cells #[.int .i64 k0, .int .i64 k1, .int .i64 k2, .slice a1 n1 cap1] 24)).ownsRow 0 24 4 (.slice oa ((l.take j).filter p).length ocap) ((l.take j).filter p).length cs0) := ownsRow_below hrow0 ((Below.refl _ _).alloc (Nat.le_refl _) _)
        have HDS0 := Lib.hid hds0
        clear hrow0 hds0
        generalize hkl : ((l.take j).filter p).length = kl at *
        have HKL := Lib.hid hkl
        clear hkl
        go_wp2_with (at_builtin; go_must (refine wpList_append_lies _ rfl _ _ 22 rfl 0 24 i2 _ 4 48 Tryd.underlying22 hi2 ht0 ht1 ht2 rfl (by decide) (.slice oa kl ocap) _ _ rfl HROW.out ⟨w2.heap.size, 0, none⟩ 1 1 [.int .i64 k0, .int .i64 k1, .int .i64 k2, .slice a1 n1 cap1] rfl rfl (World.news_of_block (heap_alloc_new w2 _)) (by simp [Value.oneCell']) (by omega) (by unfold maxLen; omega) (by omega) (Nat.zero_le _) (w2.heap.size + 1) (by simp) ?_); intro g cp w3 hown hgrow hat hglt; have HO3 := Lib.hid hown; have HGR := Lib.hid hgrow; have HAT := Lib.hid hat; clear hown hgrow hat)
        have hbx : Below w2.heap.size w2 (w2.alloc (.cells #[.int .i64 k0, .int .i64 k1, .int .i64 k2, .slice a1 n1 cap1] 24)) := (Below.refl _ _).alloc (Nat.le_refl _) _
        have oA := HO2.out.below hbx
        have hdt : DsAt (w2.alloc (.cells #[.int .i64 k0, .int .i64 k1, .int .i64 k2, .slice a1 n1 cap1] 24)) F ([l[j]].map Tr.toD) [.int .i64 k0, .int .i64 k1, .int .i64 k2, .slice a1 n1 cap1] := by
          obtain ⟨d0, d1, d2, d3, hd, hdd⟩ := HTJ.out.agree (agreeF_of_below (HB2.out.trans (hbx.mono HB2.out.size)) HF.out)
          simp at hd
          obtain ⟨rfl, rfl, rfl, rfl⟩ := hd
          exact DsAt.one_of hdd
        obtain ⟨g1, g2, g3⟩ := oA.appended (ys := [l[j]].map Tr.toD) (DsAt.agree (fun k hk => Below.heap_alloc _ _ _ (HO2.out.lt k hk)) _ _ HDS0.out) (by simpa [HKL.out] using HO3.out) HGR.out (by rcases HAT.out with h | h; exact .inl h.symm; exact .inr (by simp [Value.ownBlock, h])) hdt
        refine ⟨⟨j + 1, some g, by go_num, by omega, ?_, ?_, ?_⟩, by simp [intOf]; omega⟩
        · rw [HH1.out, List.map_append]; exact (by simpa [Value.ownBlock] using g1)
        · intro k hk
          have h2 := HB2.out.size
          simp only [Value.ownBlock] at g3
          rcases g3 with g3 | g3
          · exact HQ.out k (by rw [← g3]; exact hk)
          · rw [hk] at g3; simp at g3; omega
        · refine HB2.out.trans ((hbx.mono HB2.out.size).trans (g2.below (by have := HB2.out.size; simp; omega) (fun k hk => ?_)))
          exact HQ.out k hk
    · have htk : l.take j = l := List.take_of_length_le (by omega)
      rw [htk] at O ⊢
      have HO := Lib.hid O
      clear htk O
      go_wp2_with fail
      go_ret
      exact ⟨_, _, q, rfl, HO.out, HQ.out, hb⟩


/-- The package's table. -/
structure IdleAt (w : World) : Prop where
  and : w.cell? ⟨0, 4, none⟩ = some (.int .i64 1)
  or : w.cell? ⟨0, 5, none⟩ = some (.int .i64 0)
  lt : 0 < w.heap.size
theorem IdleAt.below {w w' : World} (h : IdleAt w) (hb : Below w.heap.size w w') : IdleAt w' :=
  ⟨(hb.cell (p := ⟨0, 4, none⟩) h.lt).trans h.and, (hb.cell (p := ⟨0, 5, none⟩) h.lt).trans h.or, Nat.lt_of_lt_of_le h.lt hb.size⟩
theorem IdleAt.cell {w : World} (h : IdleAt w) {kd : Nat} (hk : kd = 4 ∨ kd = 5) : w.cell? ⟨0, kd, none⟩ = some (.int .i64 (idleI kd)) := by
  rcases hk with rfl | rfl
  · exact h.and
  · exact h.or
theorem idleI_range (k : Int) : 0 ≤ idleI k ∧ idleI k ≤ 1 := by unfold idleI; split <;> omega

theorem const_any (n : Int) (w : World) : Calls Tryd.prog 24 #[.int .i64 n] w fun e w' => e = .returned (.agg #[.int .i64 1, .int .i64 n, .int .i64 0, .slice none 0 0]) ∧ Below w.heap.size w w' := by
  go_enter Tryd.func24, Tryd.ntmps24
  go_wp2_with fail
  refine bodyPost_ret (v := .agg #[.int .i64 1, .int .i64 n, .int .i64 0, .slice none 0 0]) (by simp [results, Tryd.results24, go_sem]) rfl ?_
  exact ⟨rfl, (Below.refl _ _).alloc (Nat.le_refl _) _⟩
theorem known_any (k0 k1 k2 : Int) (a : Option Addr) (n cap : Nat) (w : World) : Calls Tryd.prog 28 #[.agg #[.int .i64 k0, .int .i64 k1, .int .i64 k2, .slice a n cap]] w fun e w' => e = .returned (.bool (k0 == 1)) ∧ Below w.heap.size w w' := by
  go_enter Tryd.func28, Tryd.ntmps28
  go_wp2_with fail
  go_ret
  exact ⟨rfl, (Below.refl _ _).alloc (Nat.le_refl _) _⟩
theorem open_any (k0 k1 k2 : Int) (a : Option Addr) (n cap : Nat) (w : World) : Calls Tryd.prog 29 #[.agg #[.int .i64 k0, .int .i64 k1, .int .i64 k2, .slice a n cap]] w fun e w' => e = .returned (.bool (k0 != 1)) ∧ Below w.heap.size w w' := by
  go_enter Tryd.func29, Tryd.ntmps29
  go_wp2_with fail
  go_ret
  exact ⟨rfl, (Below.refl _ _).alloc (Nat.le_refl _) _⟩
theorem one_any (k0 k1 k2 : Int) (a : Option Addr) (n cap : Nat) (w : World) : Calls Tryd.prog 27 #[.agg #[.int .i64 k0, .int .i64 k1, .int .i64 k2, .slice a n cap]] w fun e w' => e = .returned (.bool ((k0 == 1) && (k1 == 1))) ∧ Below w.heap.size w w' := by
  by_cases hk : k0 = 1
  · rw [show ((k0 == 1) && (k1 == 1)) = (k1 == 1) from by simp [hk]]
    have HK : Hid ((k0 == 1) = true) := by simp [Hid, hk]
    clear hk
    go_enter Tryd.func27, Tryd.ntmps27
    go_wp2_with fail
    refine (known_any k0 k1 k2 a n cap _).mono ?_
    rintro e w' ⟨rfl, hb⟩
    obtain ⟨z0, z1, z2, z3⟩ := boxed4 hb (by simp)
    have HB := Lib.hid (Below.ahead hb (by simp))
    rw [HK.out]
    clear hb
    go_wp2_with fail
    go_ret
    exact ⟨rfl, HB.out⟩
  · rw [show ((k0 == 1) && (k1 == 1)) = false from by simp [hk]]
    have HK : Hid ((k0 == 1) = false) := by simp [Hid, hk]
    clear hk
    go_enter Tryd.func27, Tryd.ntmps27
    go_wp2_with fail
    refine (known_any k0 k1 k2 a n cap _).mono ?_
    rintro e w' ⟨rfl, hb⟩
    have HB := Lib.hid (Below.ahead hb (by simp))
    rw [HK.out]
    clear hb
    go_wp2_with fail
    go_ret
    exact ⟨rfl, HB.out⟩
theorem odd_any (kd : Nat) (hkd : kd = 4 ∨ kd = 5) (k0 k1 k2 : Int) (a : Option Addr) (n cap cb : Nat) (w : World) (hi : IdleAt w) (hcb : w.cell? ⟨cb, 0, none⟩ = some (.int .i64 kd)) (hlt : cb < w.heap.size) :
    Calls Tryd.prog 41 #[.agg #[.int .i64 k0, .int .i64 k1, .int .i64 k2, .slice a n cap], .pointer (some ⟨cb, 0, none⟩)] w fun e w' => e = .returned (.bool ((k0 == 1) && (k1 != idleI kd))) ∧ Below w.heap.size w w' := by
  have hc := hi.cell hkd
  have hgl := hi.lt
  have h0 : (0 : Int) ≤ (kd : Int) := by omega
  have h1 : (kd : Int) < 6 := by omega
  clear hi hkd
  generalize idleI kd = id at *
  have HBX : Hid (∀ W : World, Below w.heap.size w W → W.cell? ⟨cb, 0, none⟩ = some (.int .i64 kd) ∧ W.cell? ⟨0, kd, none⟩ = some (.int .i64 id)) := fun W h => ⟨(h.cell hlt).trans hcb, (h.cell (p := ⟨0, kd, none⟩) hgl).trans hc⟩
  by_cases hk : k0 = 1
  · rw [show ((k0 == 1) && (k1 != id)) = (k1 != id) from by simp [hk]]
    have HK : Hid ((k0 == 1) = true) := by simp [Hid, hk]
    clear hk
    go_enter Tryd.func41, Tryd.ntmps41
    go_wp2_with fail
    go_region_law (go_simp; go_at_call 28; (with_reducible refine (known_any k0 k1 k2 a n cap _).mono ?_); rintro e w' ⟨rfl, hb⟩; rw [HK.out]; obtain ⟨z0, z1, z2, z3⟩ := boxed4 (below_drew hb) (by simp); have HB := Lib.hid (Below.ahead (below_drew hb) (by simp)); obtain ⟨y0, y1⟩ := HBX.out w' HB.out; clear hb)
    all_goals go_wp2_with fail
    all_goals go_ret
    all_goals exact ⟨rfl, by first | exact HB.out | exact below_undrew HB.out⟩
  · rw [show ((k0 == 1) && (k1 != id)) = false from by simp [hk]]
    have HK : Hid ((k0 == 1) = false) := by simp [Hid, hk]
    clear hk
    go_enter Tryd.func41, Tryd.ntmps41
    go_wp2_with fail
    first | (go_region_with (go_at_call 28; refine (known_any k0 k1 k2 a n cap _).mono ?_; rintro e w' ⟨rfl, hb⟩; rw [HK.out]; have HB := Lib.hid (Below.ahead (below_drew hb) (by simp)); clear hb)) | fail
    all_goals go_wp2_with fail
    all_goals go_ret
    all_goals exact ⟨rfl, by first | exact HB.out | exact below_undrew HB.out⟩

set_option maxRecDepth 100000 in
set_option maxHeartbeats 1000000 in
theorem join_any (kd : Nat) (hkd : kd = 4 ∨ kd = 5) (l : List Tr) (v : Value) (w : World) (F : Nat → Prop) (hF : ∀ k, F k → k < w.heap.size) (hi : IdleAt w) (hs : sizes l ≤ 2000000) (hd : DAt w F (.sl (l.map Tr.toD)) [v]) :
    Calls Tryd.prog 25 #[.int .i64 kd, v] w fun e w' => ∃ y, e = .returned y ∧ TreeV w' (Plus F w w') (joinT kd l) y ∧ Below w.heap.size w w' := by
  obtain ⟨a, b, o, cap, hv, hsl, hc1, hc2, hin⟩ := Tr.open_slice hd
  simp only [List.cons.injEq, and_true] at hv
  subst hv
  have hll := length_le_sizes l
  obtain ⟨i2, hi2, ht0, ht1, ht2⟩ := info_parts tree_info2
  have hW2 : Below w.heap.size w ((w.alloc (.cells #[.int .i64 kd] 3)).alloc (.cells #[.int .i64 0, .int .i64 0, .int .i64 0, .slice none 0 0] 24)) := ((Below.refl _ _).alloc (Nat.le_refl _) _).alloc (by simp) _
  have HC := Lib.hid (containsFunc_any 41 #[.pointer (some ⟨w.heap.size, 0, none⟩)] (oddT kd) l a b o cap ((w.alloc (.cells #[.int .i64 kd] 3)).alloc (.cells #[.int .i64 0, .int .i64 0, .int .i64 0, .slice none 0 0] 24)) (hsl.mono (fun k hk => by have := hF k hk; simp; omega)) (fun i hi => by
      obtain ⟨k0, k1, k2, a', n', cap', g0, g1, g2, g3, g4⟩ := TreesIn.atF hin hW2 hF (hsl (by omega)).2 i hi
      exact ⟨k0, k1, k2, a', n', cap', g0, g1, g2, g3, (g4.agree (agreeF_of_below hW2 hF)).mono (fun k hk => by have := hF k hk; simp; omega)⟩)
    (fun j hj W hW k0 k1 k2 a1 n1 cap1 htj => by
      have h1 := odd_any kd hkd k0 k1 k2 a1 n1 cap1 w.heap.size W (hi.below (hW2.trans (hW.mono hW2.size))) (cell_of_heap ((hW.block w.heap.size (by simp; omega)).trans (alloc2_0 _ _ _)) rfl) (Nat.lt_of_lt_of_le (by simp; omega) hW.size)
      have h2 : oddT kd l[j] = ((k0 == 1) && (k1 != idleI kd)) := by
        obtain ⟨c0, c1, c2, c3, he, hdd⟩ := htj
        generalize l[j] = tj at hdd
        obtain ⟨kk, vv, kk2, ll⟩ := tj
        obtain ⟨_, _, _, _, h0, _⟩ := Tr.open hdd
        simp at he h0
        obtain ⟨rfl, rfl, _⟩ := h0
        obtain ⟨e1, e2, _⟩ := he
        simp at e1 e2
        rw [e1, e2]; rfl
      rw [h2]; exact h1) (enters_of Tryd.func41 (by kernel_rfl) rfl) (by omega))
  have hkb : (0 : Int) ≤ (kd : Int) ∧ (kd : Int) < 6 := by omega
  have hidr := idleI_range (kd : Int)
  have HBX : Hid (∀ W : World, Below (w.heap.size + 2) ((w.alloc (.cells #[.int .i64 kd] 3)).alloc (.cells #[.int .i64 0, .int .i64 0, .int .i64 0, .slice none 0 0] 24)) W →
      W.cell? ⟨w.heap.size, 0, none⟩ = some (.int .i64 kd) ∧ W.heap[w.heap.size + 1]? = some (.cells #[.int .i64 0, .int .i64 0, .int .i64 0, .slice none 0 0] 24 (0, 0)) ∧ W.cell? ⟨0, kd, none⟩ = some (.int .i64 (idleI kd)) ∧ Below w.heap.size w W ∧ w.heap.size + 2 ≤ W.heap.size) := fun W h => by
    have hs2 := h.size
    simp only [World.size_alloc] at hs2
    refine ⟨cell_of_heap ((h.block w.heap.size (by omega)).trans (alloc2_0 _ _ _)) rfl, (h.block (w.heap.size + 1) (by omega)).trans (alloc2_1 _ _ _), ?_, hW2.trans (h.mono (by simp)), by omega⟩
    exact (hi.below (hW2.trans (h.mono (by simp)))).cell hkd
  have HF := Lib.hid hF
  have HD := Lib.hid hd
  have HI := Lib.hid hi
  have hgl := hi.lt
  clear hF hd hi hin hsl hW2 hkd
  generalize hid : idleI (kd : Int) = id at *
  have HID := Lib.hid hid
  clear hid
  by_cases hodd : l.any (oddT kd) = true
  · have HJ : Hid (joinT kd l = constT (1 - id)) := by show _ = _; unfold joinT; rw [if_pos hodd, HID.out]
    have HODD := Lib.hid hodd
    clear hodd
    go_enter Tryd.func25, Tryd.ntmps25
    go_wp2_with fail
    refine HC.out.mono ?_
    rintro e w3 ⟨rfl, hb3⟩
    rw [HODD.out]
    obtain ⟨z0, z1, z2, hbw, hsz⟩ := HBX.out w3 (by simpa using hb3)
    have HB3 := Lib.hid hbw
    clear hb3 hbw
    go_wp2_with fail
    refine (const_any _ _).mono ?_
    rintro e w4 ⟨rfl, hb4⟩
    have y1 := (hb4.block (w.heap.size + 1) (by omega)).trans z1
    have HB4 := Lib.hid (HB3.out.trans (hb4.mono HB3.out.size))
    have f0 : w4.frozen? ⟨w.heap.size + 1, 0, none⟩ = false := frozen_of_heap y1
    have f1 : w4.frozen? ⟨w.heap.size + 1, 1, none⟩ = false := frozen_of_heap y1
    have f2 : w4.frozen? ⟨w.heap.size + 1, 2, none⟩ = false := frozen_of_heap y1
    have f3 : w4.frozen? ⟨w.heap.size + 1, 3, none⟩ = false := frozen_of_heap y1
    have x0 : w4.cell? ⟨w.heap.size + 1, 0, none⟩ = some (.int .i64 0) := cell_of_heap y1 rfl
    have x1 : w4.cell? ⟨w.heap.size + 1, 1, none⟩ = some (.int .i64 0) := cell_of_heap y1 rfl
    have x2 : w4.cell? ⟨w.heap.size + 1, 2, none⟩ = some (.int .i64 0) := cell_of_heap y1 rfl
    have x3 : w4.cell? ⟨w.heap.size + 1, 3, none⟩ = some (.slice none 0 0) := cell_of_heap y1 rfl
    clear hb4 y1 z1
    go_wp2_with fail
    refine bodyPost_ret (v := .agg #[.int .i64 1, .int .i64 (1 - id), .int .i64 0, .slice none 0 0]) (by simp [results, Tryd.results25, go_sem, *]) rfl ?_
    rw [HJ.out]
    exact ⟨_, rfl, put4_fin (w := w) (W := w4) (H := w.heap.size + 1) HB4.out (by omega) (TreeV.const (F := fun _ => False) (by unfold I64; omega)) (fun h => h) (fun _ h => h.elim)⟩
  · have hodd' : l.any (oddT kd) = false := by simpa using hodd
    have HJ : Hid (joinT kd l = endT kd (flatT kd (l.filter openT))) := by show _ = _; unfold joinT; rw [if_neg hodd]
    have HODD := Lib.hid hodd'
    have hml := List.length_filter_le openT l
    have hmf := sizes_filter openT l
    have hfl := sizes_flat kd (l.filter openT)
    have hfl2 := length_le_sizes (flatT kd (l.filter openT))
    clear hodd hodd'
    go_enter Tryd.func25, Tryd.ntmps25
    go_wp2_with fail
    refine HC.out.mono ?_
    rintro e w3 ⟨rfl, hb3⟩
    rw [HODD.out]
    obtain ⟨z0, z1, z2, hbw, hsz⟩ := HBX.out w3 (by simpa using hb3)
    have HB3 := Lib.hid hbw
    have HB23 := Lib.hid hb3
    obtain ⟨a', b', o', cap', hv, hsl, _, _, hin⟩ := Tr.open_slice (DAt.agree (agreeF_of_below hbw HF.out) _ _ HD.out)
    simp only [List.cons.injEq, and_true] at hv
    obtain ⟨rfl, _, rfl⟩ := hv
    have HK := Lib.hid (kept_any 29 #[] openT l a b' o' cap w3 F (fun k hk => Nat.lt_of_lt_of_le (HF.out k hk) hbw.size) hsl hin (fun j hj W hW k0 k1 k2 a1 n1 cap1 htj => by
      have h1 := open_any k0 k1 k2 a1 n1 cap1 W
      have h2 : openT l[j] = (k0 != 1) := by
        obtain ⟨c0, c1, c2, c3, he, hdd⟩ := htj
        generalize l[j] = tj at hdd
        obtain ⟨kk, vv, kk2, ll⟩ := tj
        obtain ⟨_, _, _, _, h0, _⟩ := Tr.open hdd
        simp at he h0
        obtain ⟨rfl, rfl, _⟩ := h0
        obtain ⟨e1, e2, _⟩ := he
        simp at e1 e2
        rw [e1]; rfl
      rw [h2]; exact h1) (enters_of Tryd.func29 (by kernel_rfl) rfl) (by omega))
    clear hb3 hbw hsl hin
    go_wp2_with fail
    refine HK.out.mono ?_
    rintro e w4 ⟨ka, kc, q4, rfl, O4, hq4, hb4⟩
    have hs34 := hb4.size
    have HB4 := Lib.hid (HB3.out.trans (hb4.mono HB3.out.size))
    obtain ⟨y0, y1, y2, _, hsz4⟩ := HBX.out w4 ((by simpa using HB23.out : Below (w.heap.size + 2) _ w3).trans (hb4.mono (by omega)))
    have HD4 : Hid (DAt w4 (fun k => F k ∨ q4 = some k) (.sl ((l.filter openT).map Tr.toD)) [.slice ka (l.filter openT).length kc]) := O4.read (fun k hk => .inl hk) (fun k hk => .inr hk) (by rw [trees_widths, List.length_map])
    have HQ4 := Lib.hid hq4
    have hlt4 : ∀ k, (F k ∨ q4 = some k) → k < w4.heap.size := fun k hk => by
      rcases hk with hk | hk
      · exact O4.lt k hk
      · exact O4.row_lt hk
    have HLT4 := Lib.hid hlt4
    clear hb4 O4 hq4 hlt4 z1
    have HJM := HJ.out
    generalize l.filter openT = m at *
    have HJ2 := Lib.hid HJM
    clear HJM HJ
    have HMS : Hid (sizes m ≤ 2000000) := by show _ ≤ _; omega
    have hmm : m.length ≤ 2000000 := by omega
    have hfm : (flatT kd m).length ≤ 2000000 := by omega
    obtain ⟨ka', b4, o4, kc', hv4, hsl4, _, _, hin4⟩ := Tr.open_slice HD4.out
    simp only [List.cons.injEq, and_true] at hv4
    obtain ⟨rfl, _, rfl⟩ := hv4
    have HIN4 := Lib.hid hin4
    have HSL4 := Lib.hid hsl4
    clear hin4 hsl4 hmf hml hfl hfl2 hll hs
    go_wp2_with fail
    go_loopw [19, 5, 7] (fun i ov _ wr => ∃ (j : Nat) (q : Option Nat), i = .int .i64 j ∧ j ≤ m.length ∧ Chalk.Own wr (fun k => F k ∨ q4 = some k) 24 4 ov q ((flatT kd (m.take j)).map Tr.toD) ∧ Hid (∀ k, q = some k → w4.heap.size ≤ k) ∧ Below w4.heap.size w4 wr) (fun i _ _ _ => m.length - (intOf i).toNat)
    case atStart => exact ⟨0, none, rfl, Nat.zero_le _, Chalk.Own.nil _ _ _ _ HLT4.out, (fun _ h => by cases h), Below.refl _ _⟩
    case round =>
      obtain ⟨j, q, rfl, hj, O, HQ, hb⟩ := hrel
      have hbs := hb.size
      obtain ⟨oa, ocap, hov⟩ := O.form
      rw [List.length_map] at hov
      subst hov
      have hx0 : wr.cell? ⟨w.heap.size, 0, none⟩ = some (.int .i64 kd) := (hb.cell (p := ⟨w.heap.size, 0, none⟩) (by show w.heap.size < _; omega)).trans y0
      have hx1 : w.heap.size < wr.heap.size := by omega
      by_cases hlt : j < m.length
      · obtain ⟨rfl, hbl⟩ := HSL4.out (by omega)
        obtain ⟨k0, k1, k2, a1, n1, cap1, e0, e1, e2, e3, htj⟩ := TreesIn.atF HIN4.out hb HLT4.out hbl j hlt
        have htk : flatT kd (m.take (j + 1)) = flatT kd (m.take j) ++ flatOne kd m[j] := by
          unfold flatT; rw [List.take_succ_eq_append_getElem hlt, List.flatMap_append, List.flatMap_singleton]
        have hle : (flatT kd (m.take (j + 1))).length ≤ 2000000 := by
          have h1 := length_le_sizes (flatT kd (m.take (j + 1)))
          have h2 := sizes_flat kd (m.take (j + 1))
          have h3 := sizes_take_le m (j + 1)
          have := HMS.out
          omega
        rw [htk, List.length_append] at hle
        have HTK := Lib.hid htk
        have HO := Lib.hid (O.alloc (.cells #[.int .i64 k0, .int .i64 k1, .int .i64 k2, .slice a1 n1 cap1] 24))
        have HB := Lib.hid (hb.alloc hbs (.cells #[.int .i64 k0, .int .i64 k1, .int .i64 k2, .slice a1 n1 cap1] 24))
        have HTJ := Lib.hid (htj.agree (agreeF_of_below HB.out HLT4.out))
        obtain ⟨hk0, hn1, HLD⟩ : m[j].kind = k0 ∧ m[j].l.length = n1 ∧ Hid (DAt (wr.alloc (.cells #[.int .i64 k0, .int .i64 k1, .int .i64 k2, .slice a1 n1 cap1] 24)) (fun k => F k ∨ q4 = some k) (.sl (m[j].l.map Tr.toD)) [.slice a1 n1 cap1]) := by
          obtain ⟨c0, c1, c2, c3, he, hdd⟩ := HTJ.out
          simp at he
          obtain ⟨rfl, rfl, rfl, rfl⟩ := he
          generalize m[j] = tj at hdd
          obtain ⟨kk, vv, kk2, ll⟩ := tj
          rw [Tr.toD, DAt] at hdd
          simp only [DsAt] at hdd
          obtain ⟨x1, x2, hx, hd0, x3, x4, hx2, hd1, x5, x6, hx4, hd2, x7, x8, hx6, hd3, hx8⟩ := hdd
          have l0 := DAt.length _ _ hd0
          have l1 := DAt.length _ _ hd1
          have l2 := DAt.length _ _ hd2
          have l3 := DAt.length _ _ hd3
          simp only [D.width] at l0 l1 l2 l3
          obtain ⟨u0, rfl⟩ := List.length_eq_one_iff.1 l0
          obtain ⟨u1, rfl⟩ := List.length_eq_one_iff.1 l1
          obtain ⟨u2, rfl⟩ := List.length_eq_one_iff.1 l2
          obtain ⟨u3, rfl⟩ := List.length_eq_one_iff.1 l3
          subst hx8 hx6 hx4 hx2
          simp at hx
          obtain ⟨rfl, rfl, rfl, rfl⟩ := hx
          rw [Tr.toDs_eq] at hd3
          rw [DAt] at hd0
          obtain ⟨h0, _⟩ := hd0
          simp at h0
          have hd3' := hd3
          rw [DAt] at hd3'
          obtain ⟨_, _, _, _, h3, _⟩ := hd3'
          simp at h3
          exact ⟨h0.symm, h3.2.1.symm, hd3⟩
        have hfle : (flatT kd (m.take j)).length ≤ 2000000 := by omega
        have HROWX : Hid (wr.heap.size + 1 ≤ wr.heap.size + 1) := Nat.le_refl _
        by_cases hkk : k0 = kd
        · have hone : flatOne kd m[j] = m[j].l := by unfold flatOne; rw [if_pos (by rw [hk0, hkk])]
          have hkk' : (k0 == (kd : Int)) = true := by simp [hkk]
          have HONE := Lib.hid hone
          rw [hone] at hle
          generalize hll : m[j].l = ll at *
          clear hll hone hkk hk0 htk O hb htj
          subst hn1
          generalize hfl : (flatT kd (m.take j)).length = fl at *
          have HFL := Lib.hid hfl
          clear hfl
          go_wp2_with (at_builtin; go_must (refine wpList_append_src _ (by rfl) _ _ _ rfl 24 i2 _ 4 48 Tryd.underlying22 hi2 ht0 ht1 ht2 rfl (by omega) (.slice oa fl ocap) (.slice a1 ll.length cap1) (fun k => F k ∨ q4 = some k) q ((flatT kd (m.take j)).map Tr.toD) (ll.map Tr.toD) rfl rfl HO.out HLD.out (by rw [trees_widths, List.length_map]) (by simp only [List.length_map]; rw [HFL.out]; unfold maxLen; omega) (by simp only [List.length_map]; rw [HFL.out]; omega) ?_); intro na ncap nrow w6 hown hmod hat; simp only [List.length_map] at hown ⊢; have HO6 := Lib.hid hown; have HM6 := Lib.hid hmod; have HAT := Lib.hid hat; clear hown hmod hat)
          refine ⟨⟨j + 1, nrow, by go_num, by omega, ?_, ?_, ?_⟩, by simp [intOf]; omega⟩
          · rw [HTK.out, HONE.out, List.map_append]; have := HO6.out; rwa [HFL.out] at this
          · intro k hk
            rcases HAT.out with h | h
            · exact HQ.out k (by rw [← h]; exact hk)
            · rw [hk] at h; simp at h; omega
          · exact HB.out.trans (HM6.out.below (by simp; omega) (fun k hk => HQ.out k hk))
        · have hone : flatOne kd m[j] = [m[j]] := by unfold flatOne; rw [if_neg (by rw [hk0]; exact hkk)]
          have hkk' : (k0 == (kd : Int)) = false := by simp [hkk]
          have HONE := Lib.hid hone
          clear hone hkk hk0 htk O hb htj hle
          obtain ⟨cs0, hrow0, hds0⟩ := HO.out.cells
          rw [List.length_map] at hrow0
          have HROW : Hid (((wr.alloc (.cells #[.int .i64 k0, .int .i64 k1, .int .i64 k2, .slice a1 n1 cap1] 24)).alloc (.cells #[.int .i64 k0, .int .i64 k1, .int .i64 k2, .slice a1 n1 cap1] 24)).ownsRow 0 24 4 (.slice oa (flatT kd (m.take j)).length ocap) (flatT kd (m.take j)).length cs0) := ownsRow_below hrow0 ((Below.refl _ _).alloc (Nat.le_refl _) _)
          have HDS0 := Lib.hid hds0
          clear hrow0 hds0
          generalize hfl : (flatT kd (m.take j)).length = fl at *
          have HFL := Lib.hid hfl
          clear hfl
          go_wp2_with (at_builtin; go_must (refine wpList_append_lies _ rfl _ _ 22 rfl 0 24 i2 _ 4 48 Tryd.underlying22 hi2 ht0 ht1 ht2 rfl (by decide) (.slice oa fl ocap) _ _ rfl HROW.out ⟨wr.heap.size + 1, 0, none⟩ 1 1 [.int .i64 k0, .int .i64 k1, .int .i64 k2, .slice a1 n1 cap1] rfl rfl (World.news_of_block (by have := heap_alloc_new (wr.alloc (.cells #[.int .i64 k0, .int .i64 k1, .int .i64 k2, .slice a1 n1 cap1] 24)) (.cells #[.int .i64 k0, .int .i64 k1, .int .i64 k2, .slice a1 n1 cap1] 24); simpa using this)) (by simp [Value.oneCell']) (by omega) (by unfold maxLen; omega) (by omega) (Nat.zero_le _) (wr.heap.size + 2) (by simp) ?_); intro g cp w6 hown hgrow hat hglt; have HO6 := Lib.hid hown; have HGR := Lib.hid hgrow; have HAT := Lib.hid hat; clear hown hgrow hat)
          have hbx : Below (wr.heap.size + 1) (wr.alloc (.cells #[.int .i64 k0, .int .i64 k1, .int .i64 k2, .slice a1 n1 cap1] 24)) ((wr.alloc (.cells #[.int .i64 k0, .int .i64 k1, .int .i64 k2, .slice a1 n1 cap1] 24)).alloc (.cells #[.int .i64 k0, .int .i64 k1, .int .i64 k2, .slice a1 n1 cap1] 24)) := (Below.refl _ _).alloc (by simp) _
          have oA := HO.out.below (by simpa using hbx)
          have hdt : DsAt ((wr.alloc (.cells #[.int .i64 k0, .int .i64 k1, .int .i64 k2, .slice a1 n1 cap1] 24)).alloc (.cells #[.int .i64 k0, .int .i64 k1, .int .i64 k2, .slice a1 n1 cap1] 24)) (fun k => F k ∨ q4 = some k) ([m[j]].map Tr.toD) [.int .i64 k0, .int .i64 k1, .int .i64 k2, .slice a1 n1 cap1] := by
            obtain ⟨d0, d1, d2, d3, hd, hdd⟩ := HTJ.out.agree (agreeF_of_below (by simpa using hbx) HO.out.lt)
            simp at hd
            obtain ⟨rfl, rfl, rfl, rfl⟩ := hd
            exact DsAt.one_of hdd
          obtain ⟨g1, g2, g3⟩ := oA.appended (ys := [m[j]].map Tr.toD) (DsAt.agree (fun k hk => Below.heap_alloc _ _ _ (HO.out.lt k hk)) _ _ HDS0.out) (by simpa [HFL.out] using HO6.out) HGR.out (by rcases HAT.out with h | h; exact .inl h.symm; exact .inr (by simp [Value.ownBlock, h])) hdt
          refine ⟨⟨j + 1, some g, by go_num, by omega, ?_, ?_, ?_⟩, by simp [intOf]; omega⟩
          · rw [HTK.out, HONE.out, List.map_append]; exact (by simpa [Value.ownBlock, HFL.out] using g1)
          · intro k hk
            simp only [Value.ownBlock] at g3
            rcases g3 with g3 | g3
            · exact HQ.out k (by rw [← g3]; exact hk)
            · rw [hk] at g3; simp at g3; omega
          · exact HB.out.trans ((hbx.mono (by omega)).trans (g2.below (by simp; omega) (fun k hk => HQ.out k hk)))
      · have htk : m.take j = m := List.take_of_length_le (by omega)
        rw [htk] at O ⊢
        have HB := Lib.hid hb
        have HBW := Lib.hid (HB4.out.trans (hb.mono HB4.out.size))
        have y5 := (hb.block (w.heap.size + 1) (by omega)).trans y1
        have y6 : wr.cell? ⟨0, kd, none⟩ = some (.int .i64 id) := (hb.cell (p := ⟨0, kd, none⟩) (by show 0 < _; omega)).trans y2
        have HR : Hid (DAt wr (fun k => (F k ∨ q4 = some k) ∨ q = some k) (.sl ((flatT kd m).map Tr.toD)) [.slice oa (flatT kd m).length ocap]) := O.read (fun k hk => .inl hk) (fun k hk => .inr hk) (by rw [trees_widths, List.length_map])
        have HG : Hid (¬ ((F (w.heap.size + 1) ∨ q4 = some (w.heap.size + 1)) ∨ q = some (w.heap.size + 1))) := by
          rintro ((h | h) | h)
          · have := HF.out _ h; omega
          · have := HQ4.out _ h; omega
          · have := HQ.out _ h; omega
        have HGP : Hid (∀ k, ((F k ∨ q4 = some k) ∨ q = some k) → Plus F w wr k) := by
          rintro k ((h | h) | h)
          · exact .inl h
          · have := HQ4.out _ h; have := HLT4.out _ (.inr h); exact .inr ⟨by omega, by omega⟩
          · have := HQ.out _ h; exact .inr ⟨by omega, O.row_lt h⟩
        clear htk hb O
        have HJ3 := HJ2.out
        generalize flatT kd m = fs at *
        have HJ4 := Lib.hid HJ3
        clear HJ3 HJ2
        match fs, HR, HJ4, hfm with
        | [], HR, HJ4, hfm =>
          rw [List.length_nil]
          go_wp2_with fail
          refine (const_any _ _).mono ?_
          rintro e w7 ⟨rfl, hb7⟩
          have y7 := (hb7.block (w.heap.size + 1) (by omega)).trans y5
          have HB7 := Lib.hid (HBW.out.trans (hb7.mono HBW.out.size))
          have f0 : w7.frozen? ⟨w.heap.size + 1, 0, none⟩ = false := frozen_of_heap y7
          have f1 : w7.frozen? ⟨w.heap.size + 1, 1, none⟩ = false := frozen_of_heap y7
          have f2 : w7.frozen? ⟨w.heap.size + 1, 2, none⟩ = false := frozen_of_heap y7
          have f3 : w7.frozen? ⟨w.heap.size + 1, 3, none⟩ = false := frozen_of_heap y7
          have x0 : w7.cell? ⟨w.heap.size + 1, 0, none⟩ = some (.int .i64 0) := cell_of_heap y7 rfl
          have x1 : w7.cell? ⟨w.heap.size + 1, 1, none⟩ = some (.int .i64 0) := cell_of_heap y7 rfl
          have x2 : w7.cell? ⟨w.heap.size + 1, 2, none⟩ = some (.int .i64 0) := cell_of_heap y7 rfl
          have x3 : w7.cell? ⟨w.heap.size + 1, 3, none⟩ = some (.slice none 0 0) := cell_of_heap y7 rfl
          clear hb7 y7 y5
          go_wp2_with fail
          refine bodyPost_ret (v := .agg #[.int .i64 1, .int .i64 id, .int .i64 0, .slice none 0 0]) (by simp [results, Tryd.results25, go_sem, *]) rfl ?_
          rw [HJ4.out, endT, HID.out]
          exact ⟨_, rfl, put4_fin (w := w) (W := w7) (H := w.heap.size + 1) HB7.out (by omega) (TreeV.const (F := fun _ => False) (by unfold I64; omega)) (fun h => h) (fun _ h => h.elim)⟩
        | [x], HR, HJ4, hfm =>
          obtain ⟨ra, rb, ro, rcap, hv, hsl, hc3, _, hin⟩ := Tr.open_slice HR.out
          simp only [List.cons.injEq, and_true] at hv
          obtain ⟨rfl, _, rfl⟩ := hv
          obtain ⟨rfl, hrb⟩ := hsl (by simp)
          obtain ⟨c0, c1, c2, c3, c4, c5, g0, g1, g2, g3, g4⟩ := hin 0 (by simp)
          simp only [Nat.zero_mul, Nat.add_zero, List.getElem_cons_zero] at g0 g1 g2 g3 g4
          have HX := Lib.hid g4
          clear g4 hin hsl hc3
          rw [List.length_singleton]
          have f0 : wr.frozen? ⟨w.heap.size + 1, 0, none⟩ = false := frozen_of_heap y5
          have f1 : wr.frozen? ⟨w.heap.size + 1, 1, none⟩ = false := frozen_of_heap y5
          have f2 : wr.frozen? ⟨w.heap.size + 1, 2, none⟩ = false := frozen_of_heap y5
          have f3 : wr.frozen? ⟨w.heap.size + 1, 3, none⟩ = false := frozen_of_heap y5
          have x0 : wr.cell? ⟨w.heap.size + 1, 0, none⟩ = some (.int .i64 0) := cell_of_heap y5 rfl
          have x1 : wr.cell? ⟨w.heap.size + 1, 1, none⟩ = some (.int .i64 0) := cell_of_heap y5 rfl
          have x2 : wr.cell? ⟨w.heap.size + 1, 2, none⟩ = some (.int .i64 0) := cell_of_heap y5 rfl
          have x3 : wr.cell? ⟨w.heap.size + 1, 3, none⟩ = some (.slice none 0 0) := cell_of_heap y5 rfl
          clear y5
          go_wp2_with fail
          refine bodyPost_ret (v := .agg #[.int .i64 c0, .int .i64 c1, .int .i64 c2, .slice c3 c4 c5]) (by simp [results, Tryd.results25, go_sem, *]) rfl ?_
          rw [HJ4.out, endT]
          exact ⟨_, rfl, put4_fin (w := w) (W := wr) (H := w.heap.size + 1) HBW.out (by omega) HX.out HG.out HGP.out⟩
        | x :: y :: r, HR, HJ4, hfm =>
          have hn2 : 2 ≤ (x :: y :: r).length := by simp
          have HT : Hid (TreeV wr (fun k => (F k ∨ q4 = some k) ∨ q = some k) (.mk kd 0 0 (x :: y :: r)) (.agg #[.int .i64 kd, .int .i64 0, .int .i64 0, .slice oa (x :: y :: r).length ocap])) := ⟨_, _, _, _, rfl, Tr.at HR.out (by unfold I64; omega) (by unfold I64; omega) (by unfold I64; omega)⟩
          rw [endT] at HJ4
          generalize hfs : x :: y :: r = fs at *
          clear hfs
          generalize hnn : fs.length = n at *
          clear hnn
          have hn0 : ((n : Int) == 0) = false := by simp; omega
          have hn1 : ((n : Int) == 1) = false := by simp; omega
          have f0 : wr.frozen? ⟨w.heap.size + 1, 0, none⟩ = false := frozen_of_heap y5
          have f1 : wr.frozen? ⟨w.heap.size + 1, 1, none⟩ = false := frozen_of_heap y5
          have f2 : wr.frozen? ⟨w.heap.size + 1, 2, none⟩ = false := frozen_of_heap y5
          have f3 : wr.frozen? ⟨w.heap.size + 1, 3, none⟩ = false := frozen_of_heap y5
          have x0 : wr.cell? ⟨w.heap.size + 1, 0, none⟩ = some (.int .i64 0) := cell_of_heap y5 rfl
          have x1 : wr.cell? ⟨w.heap.size + 1, 1, none⟩ = some (.int .i64 0) := cell_of_heap y5 rfl
          have x2 : wr.cell? ⟨w.heap.size + 1, 2, none⟩ = some (.int .i64 0) := cell_of_heap y5 rfl
          have x3 : wr.cell? ⟨w.heap.size + 1, 3, none⟩ = some (.slice none 0 0) := cell_of_heap y5 rfl
          clear y5
          go_wp2_with fail
          refine bodyPost_ret (v := .agg #[.int .i64 kd, .int .i64 0, .int .i64 0, .slice oa n ocap]) (by simp [results, Tryd.results25, go_sem, *]) rfl ?_
          rw [HJ4.out]
          exact ⟨_, rfl, put4_fin (w := w) (W := wr) (H := w.heap.size + 1) HBW.out (by omega) HT.out HG.out HGP.out⟩

end Go.Proofs.YtpacnaeckbcpjaaDoor
