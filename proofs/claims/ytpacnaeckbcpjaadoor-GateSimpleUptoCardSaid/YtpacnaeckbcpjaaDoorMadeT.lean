/- flat.made, flat.Simple. -/
import Derived.Test.YtpacnaeckbcpjaaDoorSimple
namespace Go.Proofs.YtpacnaeckbcpjaaDoor
open Go.RowKit Go.Chalk

theorem madeTs_take (l : List Tr) (j : Nat) (h : j < l.length) : madeTs (l.take (j + 1)) = madeTs (l.take j) ++ [madeT l[j]] := by
  rw [madeTs_eq, madeTs_eq, List.take_succ_eq_append_getElem h, List.map_append]; rfl
theorem madeTs_length (l : List Tr) : (madeTs l).length = l.length := by rw [madeTs_eq]; simp

theorem res4 {W : World} {H : Nat} {t : TypeId} {c0 c1 c2 c3 : Value} (h : W.heap[H]? = some (.cells #[c0, c1, c2, c3] t (0, 0))) :
    W.frozen? ⟨H, 0, none⟩ = false ∧ W.frozen? ⟨H, 1, none⟩ = false ∧ W.frozen? ⟨H, 2, none⟩ = false ∧ W.frozen? ⟨H, 3, none⟩ = false ∧ W.cell? ⟨H, 0, none⟩ = some c0 ∧ W.cell? ⟨H, 1, none⟩ = some c1 ∧ W.cell? ⟨H, 2, none⟩ = some c2 ∧ W.cell? ⟨H, 3, none⟩ = some c3 :=
  ⟨frozen_of_heap h, frozen_of_heap h, frozen_of_heap h, frozen_of_heap h, cell_of_heap h rfl, cell_of_heap h rfl, cell_of_heap h rfl, cell_of_heap h rfl⟩
theorem kind_open {t : Tr} {w : World} {F : Nat → Prop} {k0 k1 k2 : Int} {a : Option Addr} {n cap : Nat} (h : TreeV w F t (.agg #[.int .i64 k0, .int .i64 k1, .int .i64 k2, .slice a n cap])) : t.kind = k0 ∧ t.v = k1 ∧ t.k = k2 ∧ t.l.length = n := by
  obtain ⟨c0, c1, c2, c3, he, hdd⟩ := h
  obtain ⟨kk, vv, kk2, ll⟩ := t
  obtain ⟨_, _, _, _, h0, _⟩ := Tr.open hdd
  simp at he h0
  obtain ⟨rfl, rfl, rfl, rfl⟩ := h0
  simp at he
  exact ⟨he.1.symm, he.2.1.symm, he.2.2.1.symm, he.2.2.2.2.1.symm⟩
/-- What the loop's slice may lead to: the argument's memory, and what is new, but for the row itself. -/
def Else (F : Nat → Prop) (lo hi : Nat) (q : Option Nat) (k : Nat) : Prop := (F k ∨ (lo ≤ k ∧ k < hi)) ∧ q ≠ some k

set_option maxRecDepth 100000 in
set_option maxHeartbeats 2000000 in
theorem fmade_any (N : Int) (n : Nat) : ∀ (t : Tr) (x : Value) (w : World) (F : Nat → Prop), t.size ≤ n → t.size ≤ 2000000 → mayB t N = true → (∀ k, F k → k < w.heap.size) → IdleAt w → TreeV w F t x →
    Calls Tryd.prog 15 #[x] w fun e w' => ∃ y, e = .returned y ∧ TreeV w' (Plus F w w') (madeT t) y ∧ Below w.heap.size w w' := by
  induction n with
  | zero => intro t _ _ _ h; have := size_pos t; omega
  | succ n ih =>
    intro t x w F hn hs hmay hF hi ht
    obtain ⟨kind, v, k, l⟩ := t
    obtain ⟨a, b, o, cap, rfl, hsl, hki, hvi, hkki, hc1, hc2, hin⟩ := ht.open
    rw [Tr.size] at hn hs
    have hll := length_le_sizes l
    obtain ⟨hnode, hmall⟩ := mayB_node hmay
    simp only [Tr.l] at hmall
    obtain ⟨i2, hi2, ht0, ht1, ht2⟩ := info_parts tree_info2
    have hW2 : Below w.heap.size w ((w.alloc (.cells #[.int .i64 kind, .int .i64 v, .int .i64 k, .slice a l.length cap] 24)).alloc (.cells #[.int .i64 0, .int .i64 0, .int .i64 0, .slice none 0 0] 24)) := ((Below.refl _ _).alloc (Nat.le_refl _) _).alloc (by simp) _
    have HBX : Hid (∀ W : World, Below (w.heap.size + 2) ((w.alloc (.cells #[.int .i64 kind, .int .i64 v, .int .i64 k, .slice a l.length cap] 24)).alloc (.cells #[.int .i64 0, .int .i64 0, .int .i64 0, .slice none 0 0] 24)) W →
        (W.cell? ⟨w.heap.size, 0, none⟩ = some (.int .i64 kind) ∧ W.cell? ⟨w.heap.size, 1, none⟩ = some (.int .i64 v) ∧ W.cell? ⟨w.heap.size, 2, none⟩ = some (.int .i64 k) ∧ W.cell? ⟨w.heap.size, 3, none⟩ = some (.slice a l.length cap)) ∧
        W.heap[w.heap.size + 1]? = some (.cells #[.int .i64 0, .int .i64 0, .int .i64 0, .slice none 0 0] 24 (0, 0)) ∧ IdleAt W ∧ Below w.heap.size w W ∧ w.heap.size + 2 ≤ W.heap.size) := fun W h => by
      have hs2 := h.size
      simp only [World.size_alloc] at hs2
      have hb0 := (h.block w.heap.size (by omega)).trans (alloc2_0 _ _ _)
      exact ⟨⟨cell_of_heap hb0 rfl, cell_of_heap hb0 rfl, cell_of_heap hb0 rfl, cell_of_heap hb0 rfl⟩, (h.block (w.heap.size + 1) (by omega)).trans (alloc2_1 _ _ _), hi.below (hW2.trans (h.mono (by simp))), hW2.trans (h.mono (by simp)), by omega⟩
    have HIN := Lib.hid hin
    have HSL := Lib.hid hsl
    have HF := Lib.hid hF
    have HT := Lib.hid ht
    have HIH := Lib.hid ih
    have HM := Lib.hid hmall
    have HND := Lib.hid hnode
    have HW2 := Lib.hid hW2
    have HMAY := Lib.hid hmay
    unfold I64 at hki hvi hkki
    clear hin hsl hF ht ih hmall hnode hi hW2 hmay
    go_enter Tryd.func15, Tryd.ntmps15
    go_wp2_with fail
    generalize hg2 : ((w.alloc (.cells #[.int .i64 kind, .int .i64 v, .int .i64 k, .slice a l.length cap] 24)).alloc (.cells #[.int .i64 0, .int .i64 0, .int .i64 0, .slice none 0 0] 24)) = w2 at *
    have hs2 : w2.heap.size = w.heap.size + 2 := by rw [← hg2]; simp
    clear hg2
    go_loopw [12, 3, 5] (fun i ov _ wr => ∃ (j : Nat) (q : Option Nat), i = .int .i64 j ∧ j ≤ l.length ∧ Chalk.Own wr (Else F (w.heap.size + 2) wr.heap.size q) 24 4 ov q ((madeTs (l.take j)).map Tr.toD) ∧ Hid (∀ k, q = some k → w.heap.size + 2 ≤ k) ∧ Below (w.heap.size + 2) w2 wr) (fun i _ _ _ => l.length - (intOf i).toNat)
    case atStart =>
      refine ⟨0, none, rfl, Nat.zero_le _, Chalk.Own.nil _ _ _ _ ?_, (fun _ h => by cases h), Below.refl _ _⟩
      rintro k ⟨h | h, _⟩
      · have := HF.out k h; omega
      · omega
    case round =>
      obtain ⟨j, q, rfl, hj, O, HQ, hb⟩ := hrel
      have hbs := hb.size
      obtain ⟨oa, ocap, hov⟩ := O.form
      rw [List.length_map] at hov
      subst hov
      obtain ⟨⟨z0, z1, z2, z3⟩, z4, zi, zb, zs⟩ := HBX.out wr hb
      by_cases hlt : j < l.length
      · obtain ⟨rfl, hbl⟩ := HSL.out (by omega)
        obtain ⟨k0, k1, k2, a1, n1, cap1, e0, e1, e2, e3, htj⟩ := TreesIn.atF HIN.out zb HF.out hbl j hlt
        have hbx : Below wr.heap.size wr (wr.alloc (.cells #[.int .i64 k0, .int .i64 k1, .int .i64 k2, .slice a1 n1 cap1] 24)) := (Below.refl _ _).alloc (Nat.le_refl _) _
        have hzb := zb.trans (hbx.mono zb.size)
        have hsz := size_le_sizes l j hlt
        have HCA := Lib.hid (HIH.out l[j] _ (wr.alloc (.cells #[.int .i64 k0, .int .i64 k1, .int .i64 k2, .slice a1 n1 cap1] 24)) F (by omega) (by omega) (mayAll_mem HM.out (List.getElem_mem hlt)) (fun k hk => Nat.lt_of_lt_of_le (HF.out k hk) hzb.size) (zi.below hbx) (htj.agree (agreeF_of_below hzb HF.out)))
        have hle : (madeTs (l.take j)).length ≤ 2000000 := by rw [madeTs_length]; simp; omega
        have HO := Lib.hid O
        have HB := Lib.hid hb
        have HBX1 := Lib.hid hbx
        have HTK := Lib.hid (madeTs_take l j hlt)
        clear O hb hbx hzb htj zi zb z4
        generalize hml : (madeTs (l.take j)).length = ml at *
        have HML := Lib.hid hml
        clear hml
        go_wp2_with fail
        refine HCA.out.mono ?_
        rintro e w3 ⟨y, rfl, hty, hb3⟩
        have hs3 := hb3.size
        simp only [World.size_alloc] at hs3
        obtain ⟨c0, c1, c2, c3, rfl, hdy⟩ := hty
        obtain ⟨m0, m1, m2, a3, n3, cap3, rfl, rfl, rfl, rfl⟩ := TreeV.shape hdy
        have HB13 := Lib.hid (HBX1.out.trans (hb3.mono (by simp)))
        -- the slice, in the world behind the call, leading to a wider memory
        have hwide : ∀ k, Else F (w.heap.size + 2) wr.heap.size q k → Else F (w.heap.size + 2) w3.heap.size q k := fun k hk => ⟨hk.1.imp id (fun h => ⟨h.1, by omega⟩), hk.2⟩
        have hqlt : ∀ k, q = some k → k < wr.heap.size := fun k hk => HO.out.row_lt hk
        have O3 := (HO.out.below HB13.out).widen (G := Else F (w.heap.size + 2) w3.heap.size q) hwide (fun k hk h => h.2 hk) (fun k hk => by
          rcases hk.1 with h | h
          · have := HF.out k h; omega
          · exact h.2)
        have hdy3 : DAt w3 (Else F (w.heap.size + 2) w3.heap.size q) (madeT l[j]).toD [.int .i64 m0, .int .i64 m1, .int .i64 m2, .slice a3 n3 cap3] := DAt.mono (fun k hk => by
          rcases hk with h | h
          · exact ⟨.inl h, fun e => by have := HQ.out k e; have := HF.out k h; omega⟩
          · simp only [World.size_alloc] at h
            exact ⟨.inr ⟨by omega, h.2⟩, fun e => by have := hqlt k e; omega⟩) _ _ hdy
        obtain ⟨cs0, hrow0, hds0⟩ := O3.cells
        rw [List.length_map, HML.out] at hrow0
        have hb4 : Below w3.heap.size w3 (w3.alloc (.cells #[.int .i64 m0, .int .i64 m1, .int .i64 m2, .slice a3 n3 cap3] 24)) := (Below.refl _ _).alloc (Nat.le_refl _) _
        have HROW : Hid ((w3.alloc (.cells #[.int .i64 m0, .int .i64 m1, .int .i64 m2, .slice a3 n3 cap3] 24)).ownsRow 0 24 4 (.slice oa ml ocap) ml cs0) := ownsRow_below hrow0 hb4
        have HDS0 := Lib.hid hds0
        have HO3 := Lib.hid O3
        have HDY := Lib.hid hdy3
        have HB4 := Lib.hid hb4
        have HQL := Lib.hid hqlt
        clear hrow0 hds0 O3 hdy3 hdy hb3 hb4 hwide hqlt
        go_wp2_with (at_builtin; go_must (refine wpList_append_lies _ rfl _ _ 22 rfl 0 24 i2 _ 4 48 Tryd.underlying22 hi2 ht0 ht1 ht2 rfl (by decide) (.slice oa ml ocap) _ _ rfl HROW.out ⟨w3.heap.size, 0, none⟩ 1 1 [.int .i64 m0, .int .i64 m1, .int .i64 m2, .slice a3 n3 cap3] rfl rfl (World.news_of_block (heap_alloc_new w3 _)) (by simp [Value.oneCell']) (by omega) (by unfold maxLen; omega) (by omega) (Nat.zero_le _) (w3.heap.size + 1) (by simp) ?_); intro g cp w6 hown hgrow hat hglt; have HO6 := Lib.hid hown; have HGR := Lib.hid hgrow; have HAT := Lib.hid hat; clear hown hgrow hat)
        have oA := HO3.out.below HB4.out
        obtain ⟨g1, g2, g3⟩ := oA.appended (ys := [madeT l[j]].map Tr.toD) (DsAt.agree (fun k hk => Below.heap_alloc _ _ _ (HO3.out.lt k hk)) _ _ HDS0.out) (by simpa [HML.out] using HO6.out) HGR.out (by rcases HAT.out with h | h; exact .inl h.symm; exact .inr (by simp [Value.ownBlock, h])) (DsAt.agree (fun k hk => Below.heap_alloc _ _ _ (HO3.out.lt k hk)) _ _ (DsAt.one_of HDY.out))
        simp only [Value.ownBlock, World.size_alloc] at g3
        have hs6 := g2.size
        simp only [World.size_alloc] at hs6
        have g1' : Chalk.Own w6 (Else F (w.heap.size + 2) w3.heap.size q) 24 4 (.slice (some ⟨g, 0, none⟩) (ml + 1) cp) (some g) ((madeTs (l.take (j + 1))).map Tr.toD) := by
          rw [HTK.out, List.map_append]; simpa [Value.ownBlock, HML.out] using g1
        refine ⟨⟨j + 1, some g, by go_num, by omega, ?_, ?_, ?_⟩, by simp [intOf]; omega⟩
        · refine Chalk.Own.widen (F := Else F (w.heap.size + 2) w3.heap.size q) g1' (fun k hk => ⟨hk.1.imp id (fun h => ⟨h.1, by omega⟩), fun e => ?_⟩) (fun k hk h => h.2 hk) (fun k hk => ?_)
          · rcases g3 with g3 | g3
            · exact hk.2 (by rw [← g3]; exact e)
            · rw [e] at g3; simp at g3
              rcases hk.1 with h | h
              · have := HF.out k h; omega
              · omega
          · rcases hk.1 with h | h
            · have := HF.out k h; omega
            · exact h.2
        · intro k hk
          rcases g3 with g3 | g3
          · exact HQ.out k (by rw [← g3]; exact hk)
          · rw [hk] at g3; simp at g3; omega
        · exact HB.out.trans ((HB13.out.trans (HB4.out.mono (by omega))).mono (by omega) |>.trans (g2.below (by simp; omega) (fun k hk => HQ.out k hk)))
      · have htk : l.take j = l := List.take_of_length_le (by omega)
        rw [htk] at O ⊢
        have HR : Hid (DAt wr (fun k => F k ∨ (w.heap.size + 2 ≤ k ∧ k < wr.heap.size)) (.sl ((madeTs l).map Tr.toD)) [.slice oa (madeTs l).length ocap]) := O.read (fun k hk => hk.1) (fun k hk => .inr ⟨HQ.out k hk, O.row_lt hk⟩) (by rw [trees_widths, List.length_map])
        have HG1 : Hid (¬ (F (w.heap.size + 1) ∨ (w.heap.size + 2 ≤ w.heap.size + 1 ∧ w.heap.size + 1 < wr.heap.size))) := by
          rintro (h | h)
          · have := HF.out _ h; omega
          · omega
        have HGL : Hid (∀ k, (F k ∨ (w.heap.size + 2 ≤ k ∧ k < wr.heap.size)) → k < wr.heap.size) := by
          rintro k (h | h)
          · have := HF.out k h; omega
          · exact h.2
        have HGP : Hid (∀ k, (F k ∨ (w.heap.size + 2 ≤ k ∧ k < wr.heap.size)) → Plus F w wr k) := by
          rintro k (h | h)
          · exact .inl h
          · exact .inr ⟨by omega, h.2⟩
        have HMM := Lib.hid (mayAll_made l N HM.out)
        have hsm := sizes_made l N HM.out
        have hlm := madeTs_length l
        have HLM := Lib.hid hlm
        have hls := length_le_sizes (madeTs l)
        have HZB := Lib.hid zb
        have HZI := Lib.hid zi
        have HB := Lib.hid hb
        clear htk O hb zb zi hlm
        go_upto_region 7 with fail
        clear hj hlt
        have hkc : kind = 1 ∨ kind = 2 ∨ kind = 3 ∨ kind = 4 ∨ kind = 5 ∨ kind = 6 := by
          have h := HND.out
          unfold nodeOk at h
          simp only at h
          by_cases h1 : kind = 1
          · exact .inl h1
          by_cases h2 : kind = 2
          · exact .inr (.inl h2)
          by_cases h3 : kind = 3
          · exact .inr (.inr (.inl h3))
          by_cases h4 : kind = 4 ∨ kind = 5
          · rcases h4 with h4 | h4 <;> simp [h4]
          by_cases h6 : kind = 6
          · simp [h6]
          rw [if_neg h1, if_neg h2, if_neg h3, if_neg h4, if_neg h6] at h
          cases h
        rcases hkc with rfl | rfl | rfl | rfl | rfl | rfl
        · obtain ⟨f0, f1, f2, f3, x0, x1, x2, x3⟩ := res4 z4
          clear z4
          go_wp2_with fail
          refine bodyPost_ret (v := .agg #[.int .i64 1, .int .i64 v, .int .i64 k, .slice a l.length cap]) (by simp [results, Tryd.results15, go_sem, *]) rfl ?_
          rw [madeT_1]
          exact ⟨_, rfl, put4_fin (w := w) (W := wr) (H := w.heap.size + 1) HZB.out (by omega) (HT.out.agree (agreeF_of_below HZB.out HF.out)) (fun h => by have := HF.out _ h; omega) (fun _ h => .inl h)⟩
        · obtain ⟨f0, f1, f2, f3, x0, x1, x2, x3⟩ := res4 z4
          clear z4
          go_wp2_with fail
          refine bodyPost_ret (v := .agg #[.int .i64 2, .int .i64 v, .int .i64 k, .slice a l.length cap]) (by simp [results, Tryd.results15, go_sem, *]) rfl ?_
          rw [madeT_2]
          exact ⟨_, rfl, put4_fin (w := w) (W := wr) (H := w.heap.size + 1) HZB.out (by omega) (HT.out.agree (agreeF_of_below HZB.out HF.out)) (fun h => by have := HF.out _ h; omega) (fun _ h => .inl h)⟩
        · obtain ⟨x, rfl⟩ := nodeOk_3 HND.out
          rw [madeTs, madeTs] at *
          have hmx := mayAll_mem HMM.out (t := madeT x) (by simp)
          have HJ := Lib.hid (madeT_3 v k [x])
          rw [madeTs, madeTs] at HJ
          generalize madeT x = m at *
          obtain ⟨ra, rb, ro, rcap, hv, hsl, hc3, _, hin⟩ := Tr.open_slice HR.out
          simp only [List.cons.injEq, and_true] at hv
          obtain ⟨rfl, _, rfl⟩ := hv
          obtain ⟨rfl, hrb⟩ := hsl (by simp)
          obtain ⟨c0, c1, c2, c3, c4, c5, g0, g1, g2, g3, g4⟩ := hin 0 (by simp)
          simp only [Nat.zero_mul, Nat.add_zero, List.getElem_cons_zero] at g0 g1 g2 g3 g4
          have HX := Lib.hid g4
          obtain ⟨hk0, hk1, _, hk3⟩ := kind_open g4
          have hrlt := HGL.out rb hrb
          rw [List.length_singleton]
          have HMX := Lib.hid hmx
          have Z4 := Lib.hid z4
          clear g4 hin hsl hc3 hmx z4 hsm hls
          go_upto_region 10 with fail
          have hbi : Below wr.heap.size wr (wr.alloc (.cells #[.int .i64 c0, .int .i64 c1, .int .i64 c2, .slice c3 c4 c5] 24)) := (Below.refl _ _).alloc (Nat.le_refl _) _
          have hxi := heap_alloc_new wr (.cells #[.int .i64 c0, .int .i64 c1, .int .i64 c2, .slice c3 c4 c5] 24)
          generalize (wr.alloc (.cells #[.int .i64 c0, .int .i64 c1, .int .i64 c2, .slice c3 c4 c5] 24)) = wi at *
          have hsi := hbi.size
          obtain ⟨_, _, _, _, i0, i1, i2', i3⟩ := res4 hxi
          have hzi : wi.heap[w.heap.size + 1]? = some (.cells #[.int .i64 0, .int .i64 0, .int .i64 0, .slice none 0 0] 24 (0, 0)) := (hbi.block (w.heap.size + 1) (by omega)).trans Z4.out
          obtain ⟨f0, f1, f2, f3, x0, x1, x2, x3⟩ := res4 hzi
          have ZI4 := Lib.hid hzi
          have HBI := Lib.hid hbi
          have HBWI := Lib.hid (HZB.out.trans (hbi.mono HZB.out.size))
          have t0 : wi.cell? ⟨w.heap.size, 0, none⟩ = some (.int .i64 3) := (hbi.cell (p := ⟨w.heap.size, 0, none⟩) (by show w.heap.size < _; omega)).trans z0
          have HXI := Lib.hid (HX.out.agree (agreeF_of_below hbi HGL.out))
          have HGPI : Hid (∀ k, (F k ∨ (w.heap.size + 2 ≤ k ∧ k < wr.heap.size)) → Plus F w wi k) := fun k h => (HGP.out k h).imp id (fun h => ⟨h.1, by omega⟩)
          clear hbi hxi hzi g0 g1 g2 g3 z0 z1 z2 z3
          by_cases h1 : c0 = 1
          · have hv01 := mayB_known HMX.out (by simp [knownT, hk0, h1])
            rw [hk1] at hv01
            have HN : Hid (notT [m] = constT (1 - c1)) := by show _ = _; rw [notT, if_pos (by rw [hk0]; exact h1), hk1]
            subst h1
            have hcb : -10 ≤ c1 ∧ c1 ≤ 10 := by omega
            clear hv01 hk0 hk1 hk3 f0 f1 f2 f3 x0 x1 x2 x3
            go_wp2_with fail
            refine (const_any _ _).mono ?_
            rintro e w5 ⟨rfl, hb5⟩
            have hs5 := hb5.size
            obtain ⟨f0, f1, f2, f3, x0, x1, x2, x3⟩ := res4 ((hb5.block (w.heap.size + 1) (by omega)).trans ZI4.out)
            have HB5 := Lib.hid (HBWI.out.trans (hb5.mono HBWI.out.size))
            clear hb5
            go_wp2_with fail
            refine bodyPost_ret (v := .agg #[.int .i64 1, .int .i64 (1 - c1), .int .i64 0, .slice none 0 0]) (by simp [results, Tryd.results15, go_sem, *]) rfl ?_
            rw [HJ.out, HN.out]
            exact ⟨_, rfl, put4_fin (w := w) (W := w5) (H := w.heap.size + 1) HB5.out (by omega) (TreeV.const (F := fun _ => False) (by unfold I64; omega)) (fun h => h) (fun _ h => h.elim)⟩
          by_cases h3 : c0 = 3
          · obtain ⟨mk, mv, mkk, ml⟩ := m
            simp only [Tr.kind, Tr.l] at hk0 hk3
            rw [h3] at hk0
            subst hk0 h3
            obtain ⟨y, rfl⟩ := nodeOk_3 (mayB_node HMX.out).1
            obtain ⟨ya, yb, yo, ycap, hye, hysl, _, _, _, _, _, hyin⟩ := HXI.out.open
            simp at hye
            obtain ⟨rfl, rfl, rfl, rfl, rfl⟩ := hye
            obtain ⟨rfl, hyb⟩ := hysl (by simp)
            obtain ⟨d0, d1, d2, d3, d4, d5, e0, e1, e2, e3, e4⟩ := hyin 0 (by simp)
            simp only [Nat.zero_mul, Nat.add_zero, List.getElem_cons_zero] at e0 e1 e2 e3 e4
            have HN : Hid (notT [.mk 3 c1 c2 [y]] = y) := by simp [Hid, notT, Tr.kind, Tr.l]
            have HY := Lib.hid e4
            clear hk1 hk3 hyin hysl e4
            go_wp2_with fail
            refine bodyPost_ret (v := .agg #[.int .i64 d0, .int .i64 d1, .int .i64 d2, .slice d3 d4 d5]) (by simp [results, Tryd.results15, go_sem, *]) rfl ?_
            rw [HJ.out, HN.out]
            exact ⟨_, rfl, put4_fin (w := w) (W := wi) (H := w.heap.size + 1) HBWI.out (by omega) HY.out HG1.out HGPI.out⟩
          · have HN : Hid (notT [m] = .mk 3 0 0 [m]) := by show _ = _; rw [notT, if_neg (by rw [hk0]; exact h1), if_neg (by rw [hk0]; exact h3)]
            have h1' : (c0 == 1) = false := by simp [h1]
            have h3' : (c0 == 3) = false := by simp [h3]
            have HRI : Hid (TreeV wi (fun k => F k ∨ (w.heap.size + 2 ≤ k ∧ k < wr.heap.size)) (.mk 3 0 0 [m]) (.agg #[.int .i64 3, .int .i64 0, .int .i64 0, .slice (some ⟨rb, ro, none⟩) 1 ocap])) := ⟨_, _, _, _, rfl, Tr.at (DAt.agree (agreeF_of_below HBI.out HGL.out) _ _ HR.out) (by unfold I64; omega) (by unfold I64; omega) (by unfold I64; omega)⟩
            clear hk0 hk1 hk3 h1 h3
            go_wp2_with fail
            refine bodyPost_ret (v := .agg #[.int .i64 3, .int .i64 0, .int .i64 0, .slice (some ⟨rb, ro, none⟩) 1 ocap]) (by simp [results, Tryd.results15, go_sem, *]) rfl ?_
            rw [HJ.out, HN.out]
            exact ⟨_, rfl, put4_fin (w := w) (W := wi) (H := w.heap.size + 1) HBWI.out (by omega) HRI.out HG1.out HGPI.out⟩
        · have HJM := Lib.hid (madeT_4 v k l)
          have hsz9 : sizes (madeTs l) ≤ 2000000 := by omega
          generalize madeTs l = ms at *
          have HJN : Hid (Calls Tryd.prog 25 #[.int .i64 4, .slice oa ms.length ocap] wr fun e w' => ∃ y, e = .returned y ∧ TreeV w' (Plus (fun k => F k ∨ (w.heap.size + 2 ≤ k ∧ k < wr.heap.size)) wr w') (joinT 4 ms) y ∧ Below wr.heap.size wr w') := join_any 4 (.inl rfl) ms (.slice oa ms.length ocap) wr _ HGL.out HZI.out hsz9 HR.out
          generalize ms.length = ml at *
          go_wp2_with fail
          refine HJN.out.mono ?_
          rintro e w5 ⟨y, rfl, hty, hb5⟩
          have HY := Lib.hid hty
          obtain ⟨c0, c1, c2, c3, rfl, hdy⟩ := hty
          obtain ⟨m0, m1, m2, a3, n3, cap3, rfl, rfl, rfl, rfl⟩ := TreeV.shape hdy
          have hs5 := hb5.size
          obtain ⟨f0, f1, f2, f3, x0, x1, x2, x3⟩ := res4 ((hb5.block (w.heap.size + 1) (by omega)).trans z4)
          have HB5 := Lib.hid (HZB.out.trans (hb5.mono HZB.out.size))
          clear z4 hb5 hdy z0 z1 z2 z3
          go_wp2_with fail
          refine bodyPost_ret (v := .agg #[.int .i64 m0, .int .i64 m1, .int .i64 m2, .slice a3 n3 cap3]) (by simp [results, Tryd.results15, go_sem, *]) rfl ?_
          rw [HJM.out]
          exact ⟨_, rfl, put4_fin (w := w) (W := w5) (H := w.heap.size + 1) HB5.out (by omega) HY.out (fun h => by rcases h with h | h; exact HG1.out h; omega) (fun k h => by rcases h with h | h; exact (HGP.out k h).imp id (fun h => ⟨h.1, by omega⟩); exact .inr ⟨by omega, h.2⟩)⟩
        · have HJM := Lib.hid (madeT_5 v k l)
          have hsz9 : sizes (madeTs l) ≤ 2000000 := by omega
          generalize madeTs l = ms at *
          have HJN : Hid (Calls Tryd.prog 25 #[.int .i64 5, .slice oa ms.length ocap] wr fun e w' => ∃ y, e = .returned y ∧ TreeV w' (Plus (fun k => F k ∨ (w.heap.size + 2 ≤ k ∧ k < wr.heap.size)) wr w') (joinT 5 ms) y ∧ Below wr.heap.size wr w') := join_any 5 (.inr rfl) ms (.slice oa ms.length ocap) wr _ HGL.out HZI.out hsz9 HR.out
          generalize ms.length = ml at *
          go_wp2_with fail
          refine HJN.out.mono ?_
          rintro e w5 ⟨y, rfl, hty, hb5⟩
          have HY := Lib.hid hty
          obtain ⟨c0, c1, c2, c3, rfl, hdy⟩ := hty
          obtain ⟨m0, m1, m2, a3, n3, cap3, rfl, rfl, rfl, rfl⟩ := TreeV.shape hdy
          have hs5 := hb5.size
          obtain ⟨f0, f1, f2, f3, x0, x1, x2, x3⟩ := res4 ((hb5.block (w.heap.size + 1) (by omega)).trans z4)
          have HB5 := Lib.hid (HZB.out.trans (hb5.mono HZB.out.size))
          clear z4 hb5 hdy z0 z1 z2 z3
          go_wp2_with fail
          refine bodyPost_ret (v := .agg #[.int .i64 m0, .int .i64 m1, .int .i64 m2, .slice a3 n3 cap3]) (by simp [results, Tryd.results15, go_sem, *]) rfl ?_
          rw [HJM.out]
          exact ⟨_, rfl, put4_fin (w := w) (W := w5) (H := w.heap.size + 1) HB5.out (by omega) HY.out (fun h => by rcases h with h | h; exact HG1.out h; omega) (fun k h => by rcases h with h | h; exact (HGP.out k h).imp id (fun h => ⟨h.1, by omega⟩); exact .inr ⟨by omega, h.2⟩)⟩
        · have hkb := nodeOk_6 HND.out
          have HJM := Lib.hid (madeT_6 v k l)
          have hsz9 : sizes (madeTs l) ≤ 2000000 := by omega
          have hll9 : (madeTs l).length ≤ 2000000 := by omega
          clear hsm hls
          generalize madeTs l = ms at *
          obtain ⟨oa', ob, oo, ocap', hv, hsl, _, _, hin⟩ := Tr.open_slice HR.out
          simp only [List.cons.injEq, and_true] at hv
          obtain ⟨rfl, _, rfl⟩ := hv
          have HK1 := Lib.hid (kept_any 27 #[] oneT ms oa ob oo ocap wr.drew (fun k => F k ∨ (w.heap.size + 2 ≤ k ∧ k < wr.heap.size)) HGL.out hsl (fun i hi => by
            obtain ⟨k0, k1, k2, a', n', cap', g0, g1, g2, g3, g4⟩ := hin i hi
            exact ⟨k0, k1, k2, a', n', cap', g0, g1, g2, g3, g4.agree (fun _ _ => rfl)⟩) (fun j hj W hW k0 k1 k2 a1 n1 cap1 htj => by
            have h2 := kind_open htj
            rw [show oneT ms[j] = ((k0 == 1) && (k1 == 1)) from by unfold oneT knownT; rw [h2.1, h2.2.1]]
            exact one_any k0 k1 k2 a1 n1 cap1 W) (enters_of Tryd.func27 (by kernel_rfl) rfl) hll9)
          have HK2 : Hid (∀ W : World, Below wr.heap.size wr W → Calls Tryd.prog 26 #[.slice oa ms.length ocap, .func (.func 29) #[] #[]] W fun e w' => ∃ a' c' q, e = .returned (.slice a' (ms.filter openT).length c') ∧ Chalk.Own w' (fun k => F k ∨ (w.heap.size + 2 ≤ k ∧ k < wr.heap.size)) 24 4 (.slice a' (ms.filter openT).length c') q ((ms.filter openT).map Tr.toD) ∧ (∀ k, q = some k → W.heap.size ≤ k) ∧ Below W.heap.size W w') := fun W hW =>
            kept_any 29 #[] openT ms oa ob oo ocap W (fun k => F k ∨ (w.heap.size + 2 ≤ k ∧ k < wr.heap.size)) (fun k hk => Nat.lt_of_lt_of_le (HGL.out k hk) hW.size) hsl (fun i hi => by
              obtain ⟨k0, k1, k2, a', n', cap', g0, g1, g2, g3, g4⟩ := TreesIn.atF hin hW HGL.out (hsl (by omega)).2 i hi
              exact ⟨k0, k1, k2, a', n', cap', g0, g1, g2, g3, g4.agree (agreeF_of_below hW HGL.out)⟩) (fun j hj W' hW' k0 k1 k2 a1 n1 cap1 htj => by
              have h2 := kind_open htj
              rw [show openT ms[j] = (k0 != 1) from by unfold openT; rw [h2.1]]
              exact open_any k0 k1 k2 a1 n1 cap1 W') (enters_of Tryd.func29 (by kernel_rfl) rfl) hll9
          have Z4 := Lib.hid z4
          have hf1 := List.length_filter_le oneT ms
          have hf2 := List.length_filter_le openT ms
          have hf3 := sizes_filter openT ms
          clear hsl hin z4
          generalize hmsl : ms.length = ml at *
          have HMSL := Lib.hid hmsl
          clear hmsl
          go_upto_region 20 with fail
          go_region_held3 (fun w' => w'.cell? ⟨w.heap.size, 2, none⟩ = some (.int .i64 k)) (first | exact z2 | exact z25) (first | (go_at_call 26; refine HK1.out.mono ?_; rintro e w5 ⟨ka, kc, q5, rfl, _, _, hb5⟩; have HB5 := Lib.hid (below_drew hb5); have z25 := (HB5.out.cell (p := ⟨w.heap.size, 2, none⟩) (by show w.heap.size < wr.heap.size; omega)).trans z2; clear hb5))
          all_goals
            have hs5 := HB5.out.size
            have HJL : Hid (madeT (.mk 6 v k l) = leastT k ms) := HJM.out
            have HLE := HJL.out
            unfold leastT at HLE
            generalize hc1n : (ms.filter oneT).length = cn at *
            have HCN := Lib.hid hc1n
            clear hc1n
            have HLEQ := Lib.hid HLE
            have hcn : (cn : Int) ≤ 2000000 := by omega
            clear HLE
            go_wp2_with fail
            refine (HK2.out _ HB5.out).mono ?_
            rintro e w6 ⟨ra, rc, q6, rfl, O6, hq6, hb6⟩
            have hs6 := hb6.size
            have HBW6 := Lib.hid (HZB.out.trans ((HB5.out.trans (hb6.mono hs5)).mono HZB.out.size))
            have Z6 : Hid (w6.heap[w.heap.size + 1]? = some (.cells #[.int .i64 0, .int .i64 0, .int .i64 0, .slice none 0 0] 24 (0, 0))) := ((HB5.out.trans (hb6.mono hs5)).block (w.heap.size + 1) (by omega)).trans Z4.out
            have HR6 : Hid (DAt w6 (fun k => (F k ∨ (w.heap.size + 2 ≤ k ∧ k < wr.heap.size)) ∨ q6 = some k) (.sl ((ms.filter openT).map Tr.toD)) [.slice ra (ms.filter openT).length rc]) := O6.read (fun k hk => .inl hk) (fun k hk => .inr hk) (by rw [trees_widths, List.length_map])
            have HL6 : Hid (∀ k, (fun k => (F k ∨ (w.heap.size + 2 ≤ k ∧ k < wr.heap.size)) ∨ q6 = some k) k → k < w6.heap.size) := by
              rintro k (h | h)
              · have := HGL.out k h; omega
              · exact O6.row_lt h
            have HG6 : Hid (¬ (fun k => (F k ∨ (w.heap.size + 2 ≤ k ∧ k < wr.heap.size)) ∨ q6 = some k) (w.heap.size + 1)) := by
              rintro (h | h)
              · exact HG1.out h
              · have := hq6 _ h; omega
            have HP6 : Hid (∀ k, (fun k => (F k ∨ (w.heap.size + 2 ≤ k ∧ k < wr.heap.size)) ∨ q6 = some k) k → Plus F w w6 k) := by
              rintro k (h | h)
              · exact (HGP.out k h).imp id (fun h => ⟨h.1, by omega⟩)
              · have := hq6 _ h; exact .inr ⟨by omega, O6.row_lt h⟩
            have HI6 := Lib.hid ((HZI.out.below HB5.out).below hb6)
            have z06 : w6.cell? ⟨w.heap.size, 0, none⟩ = some (.int .i64 6) := ((HB5.out.trans (hb6.mono hs5)).cell (p := ⟨w.heap.size, 0, none⟩) (by show w.heap.size < _; omega)).trans z0
            clear O6 hq6 hb6
            have HLE := HLEQ.out
            generalize ms.filter openT = rs at *
            have HLEQ2 := Lib.hid HLE
            clear HLE HLEQ
            generalize hrl : rs.length = rl at *
            have HRL := Lib.hid hrl
            clear hrl
            obtain ⟨k', hk'⟩ : ∃ k' : Int, k' = k - (cn : Int) := ⟨_, rfl⟩
            have hkr : -2000000 ≤ k' ∧ k' ≤ 1099511627776 := by omega
            have HLE := HLEQ2.out
            rw [← hk'] at *
            have HLE3 := Lib.hid HLE
            clear HLE HLEQ2 hk'
            rw [show IntKind.i64.wrap k' = k' from IntWalk.i64_in _ (by omega)]
            by_cases h1 : k' ≤ 0
            · have HJL : Hid (madeT (.mk 6 v k l) = constT 1) := by show _ = _; rw [HLE3.out, if_pos h1]
              go_wp2_with fail
              refine (const_any _ _).mono ?_
              rintro e w7 ⟨rfl, hb7⟩
              have hs7 := hb7.size
              obtain ⟨f0, f1, f2, f3, x0, x1, x2, x3⟩ := res4 ((hb7.block (w.heap.size + 1) (by omega)).trans Z6.out)
              have HB7 := Lib.hid (HBW6.out.trans (hb7.mono HBW6.out.size))
              clear hb7
              go_wp2_with fail
              refine bodyPost_ret (v := .agg #[.int .i64 1, .int .i64 1, .int .i64 0, .slice none 0 0]) (by simp [results, Tryd.results15, go_sem, *]) rfl ?_
              rw [HJL.out]
              exact ⟨_, rfl, put4_fin (w := w) (W := w7) (H := w.heap.size + 1) HB7.out (by omega) (TreeV.const (F := fun _ => False) (by unfold I64; omega)) (fun h => h) (fun _ h => h.elim)⟩
            by_cases h2 : (rl : Int) < k'
            · have HJL : Hid (madeT (.mk 6 v k l) = constT 0) := by show _ = _; rw [HLE3.out, if_neg h1, if_pos h2]
              have h1' : decide (k' ≤ 0) = false := by simp; omega
              go_wp2_with fail
              refine (const_any _ _).mono ?_
              rintro e w7 ⟨rfl, hb7⟩
              have hs7 := hb7.size
              obtain ⟨f0, f1, f2, f3, x0, x1, x2, x3⟩ := res4 ((hb7.block (w.heap.size + 1) (by omega)).trans Z6.out)
              have HB7 := Lib.hid (HBW6.out.trans (hb7.mono HBW6.out.size))
              clear hb7
              go_wp2_with fail
              refine bodyPost_ret (v := .agg #[.int .i64 1, .int .i64 0, .int .i64 0, .slice none 0 0]) (by simp [results, Tryd.results15, go_sem, *]) rfl ?_
              rw [HJL.out]
              exact ⟨_, rfl, put4_fin (w := w) (W := w7) (H := w.heap.size + 1) HB7.out (by omega) (TreeV.const (F := fun _ => False) (by unfold I64; omega)) (fun h => h) (fun _ h => h.elim)⟩
            by_cases h3 : k' = (rl : Int)
            · have HJL : Hid (madeT (.mk 6 v k l) = joinT 4 rs) := by show _ = _; rw [HLE3.out, if_neg h1, if_neg h2, if_pos h3]
              have h1' : decide (k' ≤ 0) = false := by simp; omega
              have h2' : decide ((rl : Int) < k') = false := by simp; omega
              have h3' : (k' == (rl : Int)) = true := by simp [h3]
              clear h3
              have HJN : Hid (Calls Tryd.prog 25 #[.int .i64 4, .slice ra rl rc] w6 fun e w' => ∃ y, e = .returned y ∧ TreeV w' (Plus (fun k => (F k ∨ (w.heap.size + 2 ≤ k ∧ k < wr.heap.size)) ∨ q6 = some k) w6 w') (joinT 4 rs) y ∧ Below w6.heap.size w6 w') := by
                have h := join_any 4 (.inl rfl) rs (.slice ra rl rc) w6 _ HL6.out HI6.out (by omega) HR6.out
                exact h
              go_wp2_with fail
              refine HJN.out.mono ?_
              rintro e w7 ⟨y, rfl, hty, hb7⟩
              have HY := Lib.hid hty
              obtain ⟨c0, c1, c2, c3, rfl, hdy⟩ := hty
              obtain ⟨m0, m1, m2, a3, n3, cap3, rfl, rfl, rfl, rfl⟩ := TreeV.shape hdy
              have hs7 := hb7.size
              obtain ⟨f0, f1, f2, f3, x0, x1, x2, x3⟩ := res4 ((hb7.block (w.heap.size + 1) (by omega)).trans Z6.out)
              have HB7 := Lib.hid (HBW6.out.trans (hb7.mono HBW6.out.size))
              clear hb7 hdy
              go_wp2_with fail
              refine bodyPost_ret (v := .agg #[.int .i64 m0, .int .i64 m1, .int .i64 m2, .slice a3 n3 cap3]) (by simp [results, Tryd.results15, go_sem, *]) rfl ?_
              rw [HJL.out]
              exact ⟨_, rfl, put4_fin (w := w) (W := w7) (H := w.heap.size + 1) HB7.out (by omega) HY.out (fun h => by rcases h with h | h; exact HG6.out h; omega) (fun k h => by rcases h with h | h; exact (HP6.out k h).imp id (fun h => ⟨h.1, by omega⟩); exact .inr ⟨by omega, h.2⟩)⟩
            by_cases h4 : k' = 1
            · have HJL : Hid (madeT (.mk 6 v k l) = joinT 5 rs) := by show _ = _; rw [HLE3.out, if_neg h1, if_neg h2, if_neg h3, if_pos h4]
              have h1' : decide (k' ≤ 0) = false := by simp; omega
              have h2' : decide ((rl : Int) < k') = false := by simp; omega
              have h3' : (k' == (rl : Int)) = false := by simp [h3]
              have h4' : (k' == 1) = true := by simp [h4]
              clear h4 h3
              have HJN : Hid (Calls Tryd.prog 25 #[.int .i64 5, .slice ra rl rc] w6 fun e w' => ∃ y, e = .returned y ∧ TreeV w' (Plus (fun k => (F k ∨ (w.heap.size + 2 ≤ k ∧ k < wr.heap.size)) ∨ q6 = some k) w6 w') (joinT 5 rs) y ∧ Below w6.heap.size w6 w') := by
                have h := join_any 5 (.inr rfl) rs (.slice ra rl rc) w6 _ HL6.out HI6.out (by omega) HR6.out
                exact h
              go_wp2_with fail
              refine HJN.out.mono ?_
              rintro e w7 ⟨y, rfl, hty, hb7⟩
              have HY := Lib.hid hty
              obtain ⟨c0, c1, c2, c3, rfl, hdy⟩ := hty
              obtain ⟨m0, m1, m2, a3, n3, cap3, rfl, rfl, rfl, rfl⟩ := TreeV.shape hdy
              have hs7 := hb7.size
              obtain ⟨f0, f1, f2, f3, x0, x1, x2, x3⟩ := res4 ((hb7.block (w.heap.size + 1) (by omega)).trans Z6.out)
              have HB7 := Lib.hid (HBW6.out.trans (hb7.mono HBW6.out.size))
              clear hb7 hdy
              go_wp2_with fail
              refine bodyPost_ret (v := .agg #[.int .i64 m0, .int .i64 m1, .int .i64 m2, .slice a3 n3 cap3]) (by simp [results, Tryd.results15, go_sem, *]) rfl ?_
              rw [HJL.out]
              exact ⟨_, rfl, put4_fin (w := w) (W := w7) (H := w.heap.size + 1) HB7.out (by omega) HY.out (fun h => by rcases h with h | h; exact HG6.out h; omega) (fun k h => by rcases h with h | h; exact (HP6.out k h).imp id (fun h => ⟨h.1, by omega⟩); exact .inr ⟨by omega, h.2⟩)⟩
            · have HJL : Hid (madeT (.mk 6 v k l) = .mk 6 0 k' rs) := by show _ = _; rw [HLE3.out, if_neg h1, if_neg h2, if_neg h3, if_neg h4]
              have h1' : decide (k' ≤ 0) = false := by simp; omega
              have h2' : decide ((rl : Int) < k') = false := by simp; omega
              have h3' : (k' == (rl : Int)) = false := by simp [h3]
              have h4' : (k' == 1) = false := by simp [h4]
              have HT6 : Hid (TreeV w6 (fun k => (F k ∨ (w.heap.size + 2 ≤ k ∧ k < wr.heap.size)) ∨ q6 = some k) (.mk 6 0 k' rs) (.agg #[.int .i64 6, .int .i64 0, .int .i64 k', .slice ra rl rc])) := ⟨_, _, _, _, rfl, Tr.at HR6.out (by unfold I64; omega) (by unfold I64; omega) (by unfold I64; omega)⟩
              obtain ⟨f0, f1, f2, f3, x0, x1, x2, x3⟩ := res4 Z6.out
              clear h1 h2 h3 h4
              go_wp2_with fail
              refine bodyPost_ret (v := .agg #[.int .i64 6, .int .i64 0, .int .i64 k', .slice ra rl rc]) (by simp [results, Tryd.results15, go_sem, *]) rfl ?_
              rw [HJL.out]
              exact ⟨_, rfl, put4_fin (w := w) (W := w6) (H := w.heap.size + 1) HBW6.out (by omega) HT6.out HG6.out HP6.out⟩

end Go.Proofs.YtpacnaeckbcpjaaDoor
