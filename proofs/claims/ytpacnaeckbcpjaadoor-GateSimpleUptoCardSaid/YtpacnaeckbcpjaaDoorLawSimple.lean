/- GateSimple: for every ground formula and assignment, where what comes in is of bulk at most 1048576, the law returns true: a formula and its simplification have literals of the same value. flat.idle holds what the program's text lays. -/
import Derived.Test.YtpacnaeckbcpjaaDoorLawRuns
import Derived.Test.YtpacnaeckbcpjaaDoorMadeT
namespace Go.Proofs.YtpacnaeckbcpjaaDoor
open Go.ChangeShapes Go.WideShapes Go.ChangeAt Go.RowKit Go.Chalk

theorem simple_any (N : Int) (t : Tr) (x : Value) (w : World) (hs : t.size ≤ 65536) (hN : 0 ≤ N ∧ N ≤ 65536) (hm : mayB t N = true) (hi : IdleAt w) (ht : TreeV w (· < w.heap.size) t x) :
    Calls Tryd.prog 7 #[x] w fun e w' => ∃ y, e = .returned y ∧ TreeV w' (· < w'.heap.size) (madeT t) y ∧ Below w.heap.size w w' := by
  have HT := Lib.hid ht
  obtain ⟨c0, c1, c2, c3, rfl, h⟩ := ht
  obtain ⟨k0, k1, k2, a1, n1, cap1, rfl, rfl, rfl, rfl⟩ := TreeV.shape h
  have hW2 : Below w.heap.size w ((w.alloc (.cells #[.int .i64 k0, .int .i64 k1, .int .i64 k2, .slice a1 n1 cap1] 24)).alloc (.cells #[.int .i64 0, .int .i64 0, .int .i64 0, .slice none 0 0] 24)) := ((Below.refl _ _).alloc (Nat.le_refl _) _).alloc (by simp) _
  have HC := Lib.hid (check_any t _ 65536 _ (by omega) (HT.out.later hW2 hW2.size))
  have hce : checkE t 65536 = 0 := by unfold checkE; rw [if_neg (by simp [mayB_wider t N 65536 hN.2 hm]), if_neg (by omega)]
  rw [hce] at HC
  have HBX : Hid (∀ W : World, Below (w.heap.size + 2) ((w.alloc (.cells #[.int .i64 k0, .int .i64 k1, .int .i64 k2, .slice a1 n1 cap1] 24)).alloc (.cells #[.int .i64 0, .int .i64 0, .int .i64 0, .slice none 0 0] 24)) W →
      (W.cell? ⟨w.heap.size, 0, none⟩ = some (.int .i64 k0) ∧ W.cell? ⟨w.heap.size, 1, none⟩ = some (.int .i64 k1) ∧ W.cell? ⟨w.heap.size, 2, none⟩ = some (.int .i64 k2) ∧ W.cell? ⟨w.heap.size, 3, none⟩ = some (.slice a1 n1 cap1)) ∧
      W.heap[w.heap.size + 1]? = some (.cells #[.int .i64 0, .int .i64 0, .int .i64 0, .slice none 0 0] 24 (0, 0)) ∧ IdleAt W ∧ Below w.heap.size w W ∧ w.heap.size + 2 ≤ W.heap.size) := fun W h => by
    have hs2 := h.size
    simp only [World.size_alloc] at hs2
    have hb0 := (h.block w.heap.size (by omega)).trans (alloc2_0 _ _ _)
    exact ⟨⟨cell_of_heap hb0 rfl, cell_of_heap hb0 rfl, cell_of_heap hb0 rfl, cell_of_heap hb0 rfl⟩, (h.block (w.heap.size + 1) (by omega)).trans (alloc2_1 _ _ _), hi.below (hW2.trans (h.mono (by simp))), hW2.trans (h.mono (by simp)), by omega⟩
  have HM := Lib.hid hm
  clear hce h hi hW2 hm
  go_enter Tryd.func7, Tryd.ntmps7
  go_wp2_with fail
  refine HC.out.mono ?_
  rintro e w3 ⟨rfl, hb3⟩
  obtain ⟨⟨z0, z1, z2, z3⟩, z4, zi, zb, zs⟩ := HBX.out w3 (by simpa using hb3)
  have HZ4 := Lib.hid z4
  have HCA := Lib.hid (fmade_any N _ t _ w3 (· < w.heap.size) (Nat.le_refl _) (by omega) HM.out (fun k hk => by omega) zi (HT.out.agree (agree_of_below zb)))
  have HZB := Lib.hid zb
  clear hb3 z4 zi zb
  go_wp2_with fail
  refine HCA.out.mono ?_
  rintro e w5 ⟨y, rfl, hty, hb5⟩
  have HY := Lib.hid hty
  obtain ⟨c0, c1, c2, c3, rfl, hdy⟩ := hty
  obtain ⟨m0, m1, m2, a3, n3, cap3, rfl, rfl, rfl, rfl⟩ := TreeV.shape hdy
  have hs5 := hb5.size
  obtain ⟨f0, f1, f2, f3, x0, x1, x2, x3⟩ := res4 ((hb5.block (w.heap.size + 1) (by omega)).trans HZ4.out)
  have HB5 := Lib.hid (HZB.out.trans (hb5.mono HZB.out.size))
  clear hb5 hdy z0 z1 z2 z3
  go_wp2_with fail
  refine bodyPost_ret (v := .agg #[.int .i64 m0, .int .i64 m1, .int .i64 m2, .slice a3 n3 cap3]) (by simp [results, Tryd.results7, go_sem, *]) rfl ?_
  obtain ⟨g1, g2⟩ := put4_fin (F := (· < w.heap.size)) (w := w) (W := w5) (H := w.heap.size + 1) (c0 := .int .i64 m0) (c1 := .int .i64 m1) (c2 := .int .i64 m2) (c3 := .slice a3 n3 cap3) (G := Plus (· < w.heap.size) w3 w5) (t := madeT t) HB5.out (by omega) HY.out (fun h => by rcases h with h | h <;> omega) (fun k h => by rcases h with h | h; exact .inl h; exact .inr ⟨by omega, h.2⟩)
  exact ⟨_, rfl, g1.mono (fun k h => by rcases h with h | h; exact Nat.lt_of_lt_of_le h g2.size; exact h.2), g2⟩

/-- A small well-formed tree is encoded; the encoding's values. -/
theorem gates_ok (s : Tr) (xs : List Bool) (hmay : mayB s (xs.length : Int) = true) (hs : s.size ≤ 100) (hx : xs.length ≤ 20) :
    gatesF s ((xs.length : Int) + 1) = ((litF s ((xs.length : Int) + 1)).1, (litF s ((xs.length : Int) + 1)).2.1, (litF s ((xs.length : Int) + 1)).2.2, 0) ∧
    (∀ l ∈ (litF s ((xs.length : Int) + 1)).2.1, LinOk l 65536) ∧ (-1000 ≤ (litF s ((xs.length : Int) + 1)).1 ∧ (litF s ((xs.length : Int) + 1)).1 ≤ 1000) ∧ (litF s ((xs.length : Int) + 1)).2.1.length ≤ 2000 ∧ (newsV s (false :: xs)).length ≤ 100 ∧
    (litF s ((xs.length : Int) + 1)).2.2 = (xs.length : Int) + 1 + ((newsV s (false :: xs)).length : Int) ∧
    linsV (litF s ((xs.length : Int) + 1)).2.1 (false :: xs ++ newsV s (false :: xs)) = true ∧ truthF (litF s ((xs.length : Int) + 1)).1 (false :: xs ++ newsV s (false :: xs)) = valT s (false :: xs) := by
  have hce : checkE s (xs.length : Int) = 0 := by unfold checkE; rw [if_neg (by rw [hmay]; simp; omega), if_neg (by omega)]
  have hwd := wide_small s (by omega)
  have hbd := litF_bound s ((xs.length : Int) + 1) _ hmay (by omega)
  have hok := litF_ok s ((xs.length : Int) + 1) _ hmay (by omega) (by omega) hwd
  have hnl := litF_lins s ((xs.length : Int) + 1)
  have hnv := newsV_length s (false :: xs) ((xs.length : Int) + 1) _ hmay
  have h := litF_main s _ (false :: xs) (newsV s (false :: xs)) [] hmay (by simp; omega) (by simp) rfl
  rw [List.length_cons, Int.natCast_add, Int.natCast_one, List.append_nil] at h
  refine ⟨?_, fun l hl => (hok l hl).mono (by omega), by omega, by omega, by omega, by omega, by rw [h.1]; simp, h.2⟩
  rcases gatesF_cases s ((xs.length : Int) + 1) (by omega) (by omega) with ⟨hc, hg⟩ | ⟨hc, hw, hg⟩ | ⟨hc, hw, hov, hg⟩ | ⟨hc, hw, hov, hg⟩
  · rw [show (xs.length : Int) + 1 - 1 = (xs.length : Int) from by omega] at hc; exact absurd hce hc
  · rw [hwd] at hw; cases hw
  · omega
  · exact hg

/-- The condition that is held may become stronger from here on. -/
theorem wpAnyH_less {P : Program} {md : Region.Mode} {ops : Array Oper} {Q : Exit → Act → World → Prop} {S T : World → Prop} (hST : ∀ w, S w → T w) : ∀ {fuel : Nat} {listed : Array Bool} {a : Act} {w : World}, wpAnyH P md ops Q S fuel listed a w → wpAnyH P md ops Q T fuel listed a w
  | 0, _, _, _, h => h
  | _ + 1, _, _, _, h => ⟨h.1, fun i hi => wpOp_mono (fun _ _ h' => ⟨hST _ h'.1, wpAnyH_less hST h'.2⟩) (h.2 i hi)⟩

theorem take_at {P : Program} {md : Region.Mode} {ops : Array Oper} {Q : Exit → Act → World → Prop} {S : World → Prop} {i : Nat} {dst : Option Tmp} {op : Op} {ty : TypeId} {ps : String} {aft : Array Edge} {gd : Option (Nat × Bool)} {v : Value} {fuel : Nat} {listed : Array Bool} {a : Act} {w : World} (hi : ops[i]? = some ⟨dst, op, ty, ps, aft, gd⟩)
    (hs : Region.noSelect ops = true) (hf : Region.free md ops listed i = true) (hr : (Region.ready md ops listed).contains i = true)
    (hQ : ∀ c a w, Q (.panic c) (a.put dst v) w → Q (.panic c) a w) (hw : Region.wanted ⟨dst, op, ty, ps, aft, gd⟩ (yielded ops a.tmps) = true) (hy : ∀ w, S w → (execOp a.eval ⟨dst, op, ty, ps, aft, gd⟩).run P w = .ok (.value v) w) (hS : S w)
    (h : wpAnyH P md ops Q S fuel (listed.setIfInBounds i true) (a.put dst v) w) : wpAnyH P md ops Q S (fuel + 1) listed a w :=
  wpAnyH_take hi hs hf hr hQ (.inl ⟨hw, hy⟩) hS h
theorem cons_at {P : Program} {md : Region.Mode} {ops : Array Oper} {Q : Exit → Act → World → Prop} {S : World → Prop} {fuel : Nat} {listed : Array Bool} {a : Act} {w : World} {i : Nat} {dst : Option Tmp} {op : Op} {ty : TypeId} {ps : String} {aft : Array Edge} {gd : Option (Nat × Bool)} {rs : List Nat} (ho : ops[i]? = some ⟨dst, op, ty, ps, aft, gd⟩)
    (h : ∀ K' : Act → World → Prop, Shut (∀ a w, S w → (S w → wpAnyH P md ops Q S fuel (listed.setIfInBounds i true) a w) → K' a w) → if Region.wanted ⟨dst, op, ty, ps, aft, gd⟩ (yielded ops a.tmps) = true then Oper.wp P ⟨dst, op, ty, ps, aft, gd⟩ a w K' Q else K' (a.put dst undef) w)
    (hs : AllReadyH P md ops Q S fuel listed a w rs) : AllReadyH P md ops Q S fuel listed a w (i :: rs) := AllReadyH.cons ho h hs

set_option maxRecDepth 100000 in
set_option maxHeartbeats 2000000 in
theorem simple_walk (t : Tr) (x : Value) (xs : List Bool) (u : Value) (w : World) (hidl : IdleAt w) (hs : t.size ≤ 2000000) (ht : TreeV w (· < w.heap.size) t x) (hxb : xs.length ≤ 2000000) (hx : DAt w (· < w.heap.size) (.sl (dbools xs)) [u]) :
    Calls Tryd.prog 3 #[x, u] w fun e w' => e = .returned (.bool true) ∧ Below w.heap.size w w' := by
  have HT := Lib.hid ht
  have HX := Lib.hid hx
  have HIDL := Lib.hid hidl
  clear hidl
  obtain ⟨c0, c1, c2, c3, rfl, h⟩ := ht
  obtain ⟨k0, k1, k2, a1, n1, cap1, rfl, rfl, rfl, rfl⟩ := TreeV.shape h
  obtain ⟨xa, xb, xo, xcap, hev, _⟩ := hx.open_bools
  simp only [List.cons.injEq, and_true] at hev
  subst hev
  clear h hx
  obtain ⟨i0, hi, hz0, hz1, hz2⟩ := info_parts bool_info
  go_enter Tryd.func3, Tryd.ntmps3
  go_wp2_with fail
  refine (live_any _).mono ?_
  rintro e w1 ⟨rfl, hb1⟩
  obtain ⟨q0, q1, q2, q3⟩ := boxed4 hb1 (by simp)
  have hbb := Below.ahead hb1 (by simp)
  have HB1 := Lib.hid hbb
  have hlt1 : w.heap.size < w1.heap.size := by have := hb1.size; simp at this; omega
  clear hb1 hbb
  go_wp2_with fail
  refine (size_any _ t _ _ (Nat.le_refl _) hs (HT.out.later HB1.out HB1.out.size)).mono ?_
  rintro e w2 ⟨rfl, hb2⟩
  have p0 := (hb2.cell (p := ⟨w.heap.size, 0, none⟩) hlt1).trans q0
  have p1 := (hb2.cell (p := ⟨w.heap.size, 1, none⟩) hlt1).trans q1
  have p2 := (hb2.cell (p := ⟨w.heap.size, 2, none⟩) hlt1).trans q2
  have p3 := (hb2.cell (p := ⟨w.heap.size, 3, none⟩) hlt1).trans q3
  have hlt2 : w.heap.size < w2.heap.size := by have := hb2.size; omega
  have HB2 := Lib.hid (HB1.out.trans (hb2.mono HB1.out.size))
  clear hb2 q0 q1 q2 q3
  by_cases hbig : 100 < t.size
  · have hbig' : decide ((100 : Int) < (t.size : Int)) = true := by simp; omega
    go_wp2_with fail
    go_ret
    exact ⟨rfl, HB2.out⟩
  by_cases hbig2 : 20 < xs.length
  · have hbig' : decide ((100 : Int) < (t.size : Int)) = false := by simp; omega
    have hbig2' : decide ((20 : Int) < (xs.length : Int)) = true := by simp; omega
    go_wp2_with fail
    go_ret
    exact ⟨rfl, HB2.out⟩
  · have hbig' : decide ((100 : Int) < (t.size : Int)) = false := by simp; omega
    have hbig2' : decide ((20 : Int) < (xs.length : Int)) = false := by simp; omega
    have HTS : Hid (t.size ≤ 100) := by show _ ≤ _; omega
    generalize hts : (t.size : Int) = ts at *
    clear hts hs hxb
    go_wp2_with fail
    refine (gates_any t _ ((xs.length : Int) + 1) _ (by have := HTS.out; omega) (HT.out.later HB2.out HB2.out.size)).mono ?_
    rintro e w3 ⟨v3, rfl, hN3, hb3⟩
    have q0 := (hb3.cell (p := ⟨w.heap.size, 0, none⟩) hlt2).trans p0
    have q1 := (hb3.cell (p := ⟨w.heap.size, 1, none⟩) hlt2).trans p1
    have q2 := (hb3.cell (p := ⟨w.heap.size, 2, none⟩) hlt2).trans p2
    have q3 := (hb3.cell (p := ⟨w.heap.size, 3, none⟩) hlt2).trans p3
    have HB3 := Lib.hid (HB2.out.trans (hb3.mono HB2.out.size))
    have hlt3 : w.heap.size < w3.heap.size := by have := hb3.size; omega
    have HD3 : Hid (DAt w3 (· < w3.heap.size) (.sl ((gatesF t ((xs.length : Int) + 1)).2.1.map Lin.toD)) [v3]) := DAt.mono (fun k hk => hk.2) _ _ hN3
    clear hb3 hN3 p0 p1 p2 p3
    by_cases herr : (gatesF t ((xs.length : Int) + 1)).2.2.2 = 0
    · obtain ⟨hce, hwd, hov, hgt⟩ : checkE t (xs.length : Int) = 0 ∧ wideB t = false ∧ (litF t ((xs.length : Int) + 1)).2.2 ≤ 65537 ∧ gatesF t ((xs.length : Int) + 1) = ((litF t ((xs.length : Int) + 1)).1, (litF t ((xs.length : Int) + 1)).2.1, (litF t ((xs.length : Int) + 1)).2.2, 0) := by
        rcases gatesF_cases t ((xs.length : Int) + 1) (by omega) (by omega) with ⟨hc, hg⟩ | ⟨hc, hw, hg⟩ | ⟨hc, hw, hov, hg⟩ | ⟨hc, hw, hov, hg⟩
        · rw [hg] at herr; exact absurd herr hc
        · rw [hg] at herr; exact absurd herr (by decide)
        · rw [hg] at herr; exact absurd herr (by decide)
        · exact ⟨by rwa [show (xs.length : Int) + 1 - 1 = (xs.length : Int) from by omega] at hc, hw, hov, hg⟩
      have hmay := (checkE_ok hce).2.2.1
      have hbd := litF_bound t ((xs.length : Int) + 1) _ hmay (by omega)
      have hok := litF_ok t ((xs.length : Int) + 1) _ hmay (by omega) (by omega) hwd
      have hnl := litF_lins t ((xs.length : Int) + 1)
      have hnv := newsV_length t (false :: xs) ((xs.length : Int) + 1) _ hmay
      have hmain : ∀ c : List Bool, c.length = (newsV t (false :: xs)).length → linsV (litF t ((xs.length : Int) + 1)).2.1 (false :: xs ++ c) = (c == newsV t (false :: xs)) ∧ truthF (litF t ((xs.length : Int) + 1)).1 (false :: xs ++ newsV t (false :: xs)) = valT t (false :: xs) := fun c hc => by
        have h := litF_main t _ (false :: xs) c [] hmay (by simp; omega) (by simp) hc
        rw [List.length_cons, Int.natCast_add, Int.natCast_one, List.append_nil, List.append_nil] at h
        exact h
      rw [hgt] at HD3 ⊢
      simp only at HD3 ⊢
      have HOK : Hid (∀ s ∈ (litF t ((xs.length : Int) + 1)).2.1, LinOk s 65536) := fun s hs => (hok s hs).mono (by omega)
      have HMAIN := Lib.hid hmain
      have HMAY := Lib.hid hmay
      have HS20 : Hid (t.size ≤ 2000000) := by have := HTS.out; show _ ≤ _; omega
      have HXN : Hid ((xs.length : Int) ≤ 1000000) := by show _ ≤ _; omega
      have hsz60 := HTS.out
      have hafter : (litF t ((xs.length : Int) + 1)).2.2 = (xs.length : Int) + 1 + ((newsV t (false :: xs)).length : Int) := by omega
      have hxr : -1000 ≤ (litF t ((xs.length : Int) + 1)).1 ∧ (litF t ((xs.length : Int) + 1)).1 ≤ 1000 := by omega
      have hll : (litF t ((xs.length : Int) + 1)).2.1.length ≤ 2000 := by omega
      have hm60 : (newsV t (false :: xs)).length ≤ 100 := by omega
      rw [hafter]
      have HCE := Lib.hid hce
      have HLF : Hid ((litF t ((xs.length : Int) + 1)).1 = (litF t ((false :: xs).length : Int)).1) := by rw [List.length_cons, Int.natCast_add, Int.natCast_one]; exact rfl
      clear hok hce hwd hgt herr hmay hbd hov hnl hmain hnv hafter
      generalize (litF t ((xs.length : Int) + 1)).1 = lit at *
      generalize (litF t ((xs.length : Int) + 1)).2.1 = ls at *
      generalize hnw : newsV t (false :: xs) = nw at *
      generalize hvt : valT t (false :: xs) = vt at *
      have HVT := Lib.hid hvt
      have HNW := Lib.hid hnw
      clear hnw hvt
      have e1 : ((0 : Int) != 0) = false := rfl
      have HX3 := Lib.hid (HX.out.below HB3.out)
      have hsz65 := HTS.out
      have HSI := Lib.hid (simple_any (xs.length : Int) t _ w3 (by omega) (by omega) HMAY.out (HIDL.out.below HB3.out) (HT.out.later HB3.out HB3.out.size))
      -- the simplified tree's encoding
      have hmayS := mayB_made t (xs.length : Int) HMAY.out
      have hsizS := size_made t (xs.length : Int) HMAY.out
      have hvalS := val_made t (xs.length : Int) (false :: xs) HMAY.out
      rw [HVT.out] at hvalS
      go_wp2_with fail
      refine HSI.out.mono ?_
      rintro e w4 ⟨ys, rfl, hty, hb4⟩
      generalize madeT t = sm at *
      have HTY := Lib.hid hty
      obtain ⟨c0, c1, c2, c3, rfl, hdy⟩ := hty
      obtain ⟨m0, m1, m2, a3, n3, cap3, rfl, rfl, rfl, rfl⟩ := TreeV.shape hdy
      obtain ⟨hgS, hokS, hxrS, hllS, hmS, hafS, hliS, htrS⟩ := gates_ok sm xs hmayS (by omega) (by omega)
      have hs4 := hb4.size
      have HB34 := Lib.hid hb4
      have HB4 := Lib.hid (HB3.out.trans (hb4.mono HB3.out.size))
      have hbx : Below w4.heap.size w4 (w4.alloc (.cells #[.int .i64 m0, .int .i64 m1, .int .i64 m2, .slice a3 n3 cap3] 24)) := (Below.refl _ _).alloc (Nat.le_refl _) _
      have HBX := Lib.hid hbx
      have HGT := Lib.hid (gates_any sm _ ((xs.length : Int) + 1) (w4.alloc (.cells #[.int .i64 m0, .int .i64 m1, .int .i64 m2, .slice a3 n3 cap3] 24)) (by omega) (HTY.out.later hbx hbx.size))
      rw [hgS] at HGT
      have HOKS := Lib.hid hokS
      have HMAYS := Lib.hid hmayS
      have HSS : Hid (sm.size ≤ 100) := by show _ ≤ _; omega
      have HLFS : Hid ((litF sm ((xs.length : Int) + 1)).1 = (litF sm ((false :: xs).length : Int)).1) := by rw [List.length_cons, Int.natCast_add, Int.natCast_one]; exact rfl
      rw [hvalS] at htrS
      rw [hafS] at HGT
      clear hgS hokS hafS hmayS hvalS hb4 hdy hbx hsizS
      generalize (litF sm ((xs.length : Int) + 1)).1 = litS at *
      generalize (litF sm ((xs.length : Int) + 1)).2.1 = lsS at *
      generalize hnwS : newsV sm (false :: xs) = nwS at *
      have HNWS := Lib.hid hnwS
      have HLIS := Lib.hid hliS
      have HTRS := Lib.hid htrS
      clear hnwS hliS htrS
      go_wp2_with fail
      refine HGT.out.mono ?_
      rintro e w5 ⟨v5, rfl, hN5, hb5⟩
      have hs5 := hb5.size
      simp only [World.size_alloc] at hs5
      have hbb5 := Below.ahead hb5 (by simp)
      have HB45 := Lib.hid hbb5
      obtain ⟨s0, s1, s2, s3⟩ := boxed4 hb5 (by simp)
      have HB35 := Lib.hid (HB34.out.trans (hbb5.mono hs4))
      have HB5 := Lib.hid (HB3.out.trans (HB35.out.mono HB3.out.size))
      have HD5 := Lib.hid (HD3.out.below HB35.out)
      have HDS : Hid (DAt w5 (· < w5.heap.size) (.sl (lsS.map Lin.toD)) [v5]) := DAt.mono (fun k hk => hk.2) _ _ hN5
      have HX5 := Lib.hid (HX3.out.below HB35.out)
      have p0 := (HB35.out.cell (p := ⟨w.heap.size, 0, none⟩) hlt3).trans q0
      have p1 := (HB35.out.cell (p := ⟨w.heap.size, 1, none⟩) hlt3).trans q1
      have p2 := (HB35.out.cell (p := ⟨w.heap.size, 2, none⟩) hlt3).trans q2
      have p3 := (HB35.out.cell (p := ⟨w.heap.size, 3, none⟩) hlt3).trans q3
      clear hb5 hbb5 hN5 q0 q1 q2 q3
      simp only
      have HOF : Hid (∀ W : World, Below w5.heap.size w5 W → Chalk.Own (W.alloc (.cells #[.bool false] 4)) (· < w5.heap.size) 4 1 (.slice (some ⟨W.heap.size, 0, none⟩) 1 1) (some W.heap.size) (dbools [false]) ∧ DAt (W.alloc (.cells #[.bool false] 4)) (· < w5.heap.size) (.sl (dbools xs)) [.slice xa xs.length xcap]) := fun W hbW => by
        have h1 : DsAt W (· < w5.heap.size) (dbools [false]) [.bool false] := DsAt.bools (xs := [false])
        refine ⟨?_, ?_⟩
        · have h2 := Chalk.Own.lit (w := W) (F := (· < w5.heap.size)) (e := 4) (sz := 1) (n := 1) (xs := dbools [false]) (cs := [.bool false]) rfl (by decide) rfl h1 (fun k hk => Nat.lt_of_lt_of_le hk hbW.size)
          exact h2
        · exact DAt.agree (agree_of_below (hbW.alloc hbW.size _)) _ _ HX5.out
      have HOW := Lib.hid (HOF.out w5 (Below.refl _ _)).1
      have HSR := Lib.hid (HOF.out w5 (Below.refl _ _)).2
      have hlt5 : w.heap.size < w5.heap.size := by omega
      have hlt45 : w4.heap.size < w5.heap.size := by omega
      have HK : Hid (∀ W : World, Below w5.heap.size w5 W → W.cell? ⟨w.heap.size, 0, none⟩ = some (.int .i64 k0) ∧ W.cell? ⟨w.heap.size, 1, none⟩ = some (.int .i64 k1) ∧ W.cell? ⟨w.heap.size, 2, none⟩ = some (.int .i64 k2) ∧ W.cell? ⟨w.heap.size, 3, none⟩ = some (.slice a1 n1 cap1) ∧
          W.cell? ⟨w4.heap.size, 0, none⟩ = some (.int .i64 m0) ∧ W.cell? ⟨w4.heap.size, 1, none⟩ = some (.int .i64 m1) ∧ W.cell? ⟨w4.heap.size, 2, none⟩ = some (.int .i64 m2) ∧ W.cell? ⟨w4.heap.size, 3, none⟩ = some (.slice a3 n3 cap3)) := fun W h =>
        ⟨(h.cell hlt5).trans p0, (h.cell hlt5).trans p1, (h.cell hlt5).trans p2, (h.cell hlt5).trans p3, (h.cell hlt45).trans s0, (h.cell hlt45).trans s1, (h.cell hlt45).trans s2, (h.cell hlt45).trans s3⟩
      go_upto_region 13 with (at_builtin; go_must (refine wpList_append_src _ (by rfl) _ _ _ rfl 4 i0 _ 1 1 Tryd.underlying25 hi hz0 hz1 hz2 rfl (by omega) (.slice (some ⟨w5.heap.size, 0, none⟩) 1 1) (.slice xa xs.length xcap) (· < w5.heap.size) (some w5.heap.size) (dbools [false]) (dbools xs) rfl rfl HOW.out HSR.out (by rw [dbools_widths]; simp) (by simp; unfold maxLen; omega) (by simp; omega) ?_); intro oa ocap orow w6 hown hmod hat; simp only [dbools_length, List.length_singleton] at hown ⊢; have HO6 := Lib.hid hown; have HB56 := Lib.hid (runs_below hmod); have HAT6 := Lib.hid hat; clear hown hmod hat)
      have hs6 := HB56.out.size
      have HQ6 : Hid (∀ k, orow = some k → w5.heap.size ≤ k ∧ k < w6.heap.size) := fun k hk => ⟨by rcases HAT6.out with h | h <;> (rw [h] at hk; simp at hk; omega), HO6.out.row_lt hk⟩
      have HRA : Hid (RdAt (w6.alloc (.cells #[.slice oa (1 + xs.length) ocap] 35)) w6.heap.size 35 4 (.slice oa (1 + xs.length) ocap) orow (false :: xs)) := ⟨heap_alloc_new _ _, (own_none (xs := false :: xs) HO6.out).alloc _, fun h => Nat.lt_irrefl _ (HQ6.out _ h).2⟩
      have hb7 := HB56.out.alloc hs6 (.cells #[.slice oa (1 + xs.length) ocap] 35)
      have hs7 : (w6.alloc (.cells #[.slice oa (1 + xs.length) ocap] 35)).heap.size = w6.heap.size + 1 := by simp
      generalize (w6.alloc (.cells #[.slice oa (1 + xs.length) ocap] 35)) = w7 at *
      have HB57 := Lib.hid hb7
      have HS7 := Lib.hid hs7
      have hs7' : w6.heap.size < w7.heap.size := by omega
      clear hs7
      have HOW2 := Lib.hid (HOF.out w7 hb7).1
      have HSR2 := Lib.hid (HOF.out w7 hb7).2
      clear hb7
      go_upto_region 14 with (at_builtin; go_must (refine wpList_append_src _ (by rfl) _ _ _ rfl 4 i0 _ 1 1 Tryd.underlying25 hi hz0 hz1 hz2 rfl (by omega) (.slice (some ⟨w7.heap.size, 0, none⟩) 1 1) (.slice xa xs.length xcap) (· < w5.heap.size) (some w7.heap.size) (dbools [false]) (dbools xs) rfl rfl HOW2.out HSR2.out (by rw [dbools_widths]; simp) (by simp; unfold maxLen; omega) (by simp; omega) ?_); intro ob bcap brow w8 hown hmod hat; simp only [dbools_length, List.length_singleton] at hown ⊢; have HO8 := Lib.hid hown; have HB78 := Lib.hid (runs_below hmod); have HAT8 := Lib.hid hat; clear hown hmod hat)
      have hs8 := HB78.out.size
      have HQ8 : Hid (∀ k, brow = some k → w7.heap.size ≤ k ∧ k < w8.heap.size) := fun k hk => ⟨by rcases HAT8.out with h | h <;> (rw [h] at hk; simp at hk; omega), HO8.out.row_lt hk⟩
      have HRB : Hid (RdAt (w8.alloc (.cells #[.slice ob (1 + xs.length) bcap] 35)) w8.heap.size 35 4 (.slice ob (1 + xs.length) bcap) brow (false :: xs)) := ⟨heap_alloc_new _ _, (own_none (xs := false :: xs) HO8.out).alloc _, fun h => Nat.lt_irrefl _ (HQ8.out _ h).2⟩
      have hb9 := HB78.out.alloc hs8 (.cells #[.slice ob (1 + xs.length) bcap] 35)
      have hs9 : (w8.alloc (.cells #[.slice ob (1 + xs.length) bcap] 35)).heap.size = w8.heap.size + 1 := by simp
      generalize (w8.alloc (.cells #[.slice ob (1 + xs.length) bcap] 35)) = w9 at *
      have HS9 := Lib.hid hs9
      have hs9' : w8.heap.size < w9.heap.size := by omega
      clear hs9
      have HRA9 := Lib.hid (HRA.out.below (hb9.mono (Nat.le_refl _)))
      have HB59 := Lib.hid (HB57.out.trans (hb9.mono HB57.out.size))
      clear hb9
      have HLAL : Hid ((false :: xs ++ nw).length = xs.length + 1 + nw.length) := by simp [Hid]; omega
      have HLBL : Hid ((false :: xs ++ nwS).length = xs.length + 1 + nwS.length) := by simp [Hid]; omega
      obtain ⟨al, hal⟩ : ∃ al, al = (false :: xs ++ nw).length := ⟨_, rfl⟩
      obtain ⟨bl, hbl⟩ : ∃ bl, bl = (false :: xs ++ nwS).length := ⟨_, rfl⟩
      have HAL := Lib.hid hal
      have HBL := Lib.hid hbl
      clear hal hbl
      have hee : (lit == lit) = true := by simp
      have heS : (litS == litS) = true := by simp
      have hevt : (vt == vt) = true := by simp
      have HMT := Lib.hid (HMAIN.out nw rfl)
      have hnn : (nw == nw) = true := by simp
      have HNN := Lib.hid hnn
      have HTA : Hid (TreeV w5 (· < w5.heap.size) t (.agg #[.int .i64 k0, .int .i64 k1, .int .i64 k2, .slice a1 n1 cap1])) := HT.out.later HB5.out HB5.out.size
      have HTB : Hid (TreeV w5 (· < w5.heap.size) sm (.agg #[.int .i64 m0, .int .i64 m1, .int .i64 m2, .slice a3 n3 cap3])) := HTY.out.later HB45.out HB45.out.size
      clear hnn p0 p1 p2 p3 s0 s1 s2 s3
      have HKB : Hid (∀ u1 : World, Chalk.Mod (fun k => k = w6.heap.size ∨ orow = some k) w9.drew u1 → Below w5.heap.size w5 u1 ∧ RdAt u1 w8.heap.size 35 4 (.slice ob (1 + xs.length) bcap) brow (false :: xs)) := by
        intro u1 hm1
        refine ⟨(below_undrew HB59.out).trans (hm1.below HB59.out.size (fun k hk => ?_)), (HRB.out.below (below_undrew (Below.refl _ _))).kept hm1 (fun h => ?_) (fun k hk h => ?_)⟩
        · rcases hk with h | h
          · omega
          · exact (HQ6.out k h).1
        · rcases h with h | h
          · omega
          · have := (HQ6.out _ h).2; omega
        · have := (HQ8.out k hk).1
          rcases h with h | h
          · omega
          · have := (HQ6.out _ h).2; omega
      have HKA : Hid (∀ (u1 u2 : World) (av1 : Value) (r1 : Option Nat), Below w5.heap.size w5 u1 → RdAt u1 w6.heap.size 35 4 av1 r1 (false :: xs ++ nw) → (r1 = orow ∨ ∃ k, r1 = some k ∧ w9.drew.heap.size ≤ k) → Chalk.Mod (fun k => k = w8.heap.size ∨ brow = some k) u1 u2 → Below w5.heap.size w5 u2 ∧ RdAt u2 w6.heap.size 35 4 av1 r1 (false :: xs ++ nw)) := by
        intro u1 u2 av1 r1 hc1 hra1 hr1 hm2
        refine ⟨hc1.trans (hm2.below hc1.size (fun k hk => ?_)), hra1.kept hm2 (fun h => ?_) (fun k hk h => ?_)⟩
        · rcases hk with h | h
          · omega
          · have := (HQ8.out k h).1; omega
        · rcases h with h | h
          · omega
          · have := (HQ8.out _ h).1; omega
        · have hk2 : k < w7.heap.size ∨ w9.heap.size ≤ k := by
            rcases hr1 with h1 | ⟨k', h1, hk'⟩
            · have := (HQ6.out k (h1 ▸ hk)).2; omega
            · rw [h1] at hk; simp at hk; subst hk; exact .inr hk'
          rcases h with h | h
          · omega
          · have := HQ8.out _ h; omega
      refine wp_region_noPanic ?_
      refine wp_region_held_drew (S := (fun w' => w'.cell? ⟨w.heap.size, 0, none⟩ = some (.int .i64 k0) ∧ w'.cell? ⟨w.heap.size, 1, none⟩ = some (.int .i64 k1) ∧ w'.cell? ⟨w.heap.size, 2, none⟩ = some (.int .i64 k2) ∧ w'.cell? ⟨w.heap.size, 3, none⟩ = some (.slice a1 n1 cap1) ∧ w'.cell? ⟨w4.heap.size, 0, none⟩ = some (.int .i64 m0) ∧ w'.cell? ⟨w4.heap.size, 1, none⟩ = some (.int .i64 m1) ∧ w'.cell? ⟨w4.heap.size, 2, none⟩ = some (.int .i64 m2) ∧ w'.cell? ⟨w4.heap.size, 3, none⟩ = some (.slice a3 n3 cap3))) (by kernel_rfl) (HK.out _ (below_undrew HB59.out)) (fun hHeld => ?_)
      refine take_at (i := 0) (dst := some 64) (op := Op.move (Operand.tmp 14)) (ty := 33) (aft := #[]) (gd := none) (v := ?_) rfl (by kernel_rfl) (by kernel_rfl) (by kernel_rfl) (fun _ _ _ h => h) (by rfl) ?_ hHeld ?_
      rotate_left
      · intro w hSw; (try dsimp only at hSw); go_simp; all_goals (with_reducible rfl)
      try simp only [Act.put, List.setIfInBounds_toArray, List.set_cons_zero, List.set_cons_succ]
      refine take_at (i := 1) (dst := some 65) (op := Op.load 24 (Operand.tmp 2)) (ty := 24) (aft := #[]) (gd := none) (v := ?_) rfl (by kernel_rfl) (by kernel_rfl) (by kernel_rfl) (fun _ _ _ h => h) (by rfl) ?_ hHeld ?_
      rotate_left
      · intro w hSw; (try dsimp only at hSw); go_simp; all_goals (with_reducible rfl)
      try simp only [Act.put, List.setIfInBounds_toArray, List.set_cons_zero, List.set_cons_succ]
      refine take_at (i := 3) (dst := some 67) (op := Op.move (Operand.tmp 5)) (ty := 3) (aft := #[]) (gd := none) (v := ?_) rfl (by kernel_rfl) (by kernel_rfl) (by kernel_rfl) (fun _ _ _ h => h) (by rfl) ?_ hHeld ?_
      rotate_left
      · intro w hSw; (try dsimp only at hSw); go_simp; all_goals (with_reducible rfl)
      try simp only [Act.put, List.setIfInBounds_toArray, List.set_cons_zero, List.set_cons_succ]
      refine wpAnyH_ready (rs := [2]) (by kernel_rfl) (by simp) ?_
      refine cons_at (dst := some 66) (op := Op.call { callee := Callee.value (Operand.func 8), args := #[Operand.tmp 64, Operand.tmp 65], argTypes := #[33, 24] }) (ty := 3) (aft := #[{ on := 0, ground := Ground.data }, { on := 1, ground := Ground.data }]) (gd := none) rfl (fun K hK => ?_) AllReadyH.nil
      go_simp
      go_at_call 8; refine (reader_any _ t _ _ (false :: xs) _ orow _ w5.heap.size w6.heap.size (Nat.le_refl _) HMAY.out (by simp; omega) (by simp) (by have := HTS.out; simp; omega) (HTA.out.agree (agree_of_below (below_undrew HB59.out))) HB59.out.size (by omega) (fun k hk => (HQ6.out k hk).1) (HRA9.out.below (below_undrew (Below.refl _ _)))).mono ?_; rintro e u1 ⟨rfl, av1, r1, hrd1, hr1, hm1⟩; rw [← HLF.out]; rw [HNW.out] at hrd1; obtain ⟨hc1, hrb1⟩ := HKB.out u1 hm1; have HC1 := Lib.hid hc1; have HRB1 := Lib.hid hrb1; have HRA1 := Lib.hid hrd1; have HR1 := Lib.hid hr1; clear hc1 hrb1 hrd1 hr1 hm1
      go_simp
      refine hK.out _ _ ?_ (fun hHeld2 => ?_)
      · exact HK.out _ HC1.out
      clear hK K hHeld
      have hHeld := hHeld2
      clear hHeld2
      try simp only [Act.put, List.setIfInBounds_toArray, List.set_cons_zero, List.set_cons_succ]
      refine take_at (i := 4) (dst := some 68) (op := Op.binOp BinOp.eql 3 (Operand.tmp 66) (Operand.tmp 67) 3) (ty := 4) (aft := #[{ on := 2, ground := Ground.data }, { on := 3, ground := Ground.data }]) (gd := none) (v := ?_) rfl (by kernel_rfl) (by kernel_rfl) (by kernel_rfl) (fun _ _ _ h => h) (by rfl) ?_ hHeld ?_
      rotate_left
      · intro w hSw; (try dsimp only at hSw); go_simp; all_goals (with_reducible rfl)
      try simp only [Act.put, List.setIfInBounds_toArray, List.set_cons_zero, List.set_cons_succ]
      refine take_at (i := 5) (dst := some 69) (op := Op.move (Operand.tmp 68)) (ty := 4) (aft := #[{ on := 4, ground := Ground.data }, { on := 2, ground := Ground.chain }]) (gd := none) (v := ?_) rfl (by kernel_rfl) (by kernel_rfl) (by kernel_rfl) (fun _ _ _ h => h) (by rfl) ?_ hHeld ?_
      rotate_left
      · intro w hSw; (try dsimp only at hSw); go_simp; all_goals (with_reducible rfl)
      try simp only [Act.put, List.setIfInBounds_toArray, List.set_cons_zero, List.set_cons_succ]
      refine take_at (i := 6) (dst := some 70) (op := Op.move (Operand.tmp 15)) (ty := 33) (aft := #[{ on := 5, ground := Ground.guard }]) (gd := some (5, true)) (v := ?_) rfl (by kernel_rfl) (by kernel_rfl) (by kernel_rfl) (fun _ _ _ h => h) (by rfl) ?_ hHeld ?_
      rotate_left
      · intro w hSw; (try dsimp only at hSw); go_simp; all_goals (with_reducible rfl)
      try simp only [Act.put, List.setIfInBounds_toArray, List.set_cons_zero, List.set_cons_succ]
      refine take_at (i := 7) (dst := some 71) (op := Op.load 24 (Operand.tmp 9)) (ty := 24) (aft := #[{ on := 5, ground := Ground.guard }]) (gd := some (5, true)) (v := ?_) rfl (by kernel_rfl) (by kernel_rfl) (by kernel_rfl) (fun _ _ _ h => h) (by rfl) ?_ hHeld ?_
      rotate_left
      · intro w hSw; (try dsimp only at hSw); go_simp; all_goals (with_reducible rfl)
      try simp only [Act.put, List.setIfInBounds_toArray, List.set_cons_zero, List.set_cons_succ]
      refine take_at (i := 9) (dst := some 73) (op := Op.move (Operand.tmp 10)) (ty := 3) (aft := #[{ on := 5, ground := Ground.guard }]) (gd := some (5, true)) (v := ?_) rfl (by kernel_rfl) (by kernel_rfl) (by kernel_rfl) (fun _ _ _ h => h) (by rfl) ?_ hHeld ?_
      rotate_left
      · intro w hSw; (try dsimp only at hSw); go_simp; all_goals (with_reducible rfl)
      try simp only [Act.put, List.setIfInBounds_toArray, List.set_cons_zero, List.set_cons_succ]
      refine wpAnyH_ready (rs := [8]) (by kernel_rfl) (by simp) ?_
      refine cons_at (dst := some 72) (op := Op.call { callee := Callee.value (Operand.func 8), args := #[Operand.tmp 70, Operand.tmp 71], argTypes := #[33, 24] }) (ty := 3) (aft := #[{ on := 6, ground := Ground.data }, { on := 7, ground := Ground.data }, { on := 5, ground := Ground.chain }, { on := 5, ground := Ground.guard }]) (gd := some (5, true)) rfl (fun K hK => ?_) AllReadyH.nil
      go_simp
      go_at_call 8; refine (reader_any _ sm _ _ (false :: xs) _ brow _ w5.heap.size w8.heap.size (Nat.le_refl _) HMAYS.out (by simp; omega) (by simp) (by have := HSS.out; simp; omega) (HTB.out.agree (agree_of_below HC1.out)) HC1.out.size (by omega) (fun k hk => by have := (HQ8.out k hk).1; omega) HRB1.out).mono ?_; rintro e u2 ⟨rfl, av2, r2, hrd2, hr2, hm2⟩; rw [← HLFS.out]; rw [HNWS.out] at hrd2; obtain ⟨hc2, hra2⟩ := HKA.out u1 u2 av1 r1 HC1.out HRA1.out HR1.out hm2; have HC2 := Lib.hid hc2; have HRA2 := Lib.hid hra2; clear hc2 hra2; obtain ⟨ra, rcap, hav⟩ := HRA2.out.own.form; rw [dbools_length, ← HAL.out] at hav; subst hav; obtain ⟨rb, rbcap, hbv⟩ := hrd2.own.form; rw [dbools_length, ← HBL.out] at hbv; subst hbv; have cA : u2.cell? ⟨w6.heap.size, 0, none⟩ = some (.slice ra al rcap) := cell_of_heap HRA2.out.box rfl; have cB : u2.cell? ⟨w8.heap.size, 0, none⟩ = some (.slice rb bl rbcap) := cell_of_heap hrd2.box rfl; have RA2 := Lib.hid (own_read2 HRA2.out.own (by rw [dbools_widths]; simp)); have RB2 := Lib.hid (own_read2 hrd2.own (by rw [dbools_widths]; simp)); have hltA := HRA2.out.lt; have hltB := hrd2.lt; clear hrd2 hr2 hm2
      go_simp
      refine hK.out _ _ ?_ (fun hHeld2 => ?_)
      · exact HK.out _ HC2.out
      clear hK K hHeld
      have hHeld := hHeld2
      clear hHeld2
      try simp only [Act.put, List.setIfInBounds_toArray, List.set_cons_zero, List.set_cons_succ]
      refine wpAnyH_less (S := (fun w' : World => (w'.cell? ⟨w6.heap.size, 0, none⟩ = some (.slice ra al rcap) ∧ w'.cell? ⟨w8.heap.size, 0, none⟩ = some (.slice rb bl rbcap)) ∧ w'.cell? ⟨w.heap.size, 0, none⟩ = some (.int .i64 k0) ∧ w'.cell? ⟨w.heap.size, 1, none⟩ = some (.int .i64 k1) ∧ w'.cell? ⟨w.heap.size, 2, none⟩ = some (.int .i64 k2) ∧ w'.cell? ⟨w.heap.size, 3, none⟩ = some (.slice a1 n1 cap1) ∧ w'.cell? ⟨w4.heap.size, 0, none⟩ = some (.int .i64 m0) ∧ w'.cell? ⟨w4.heap.size, 1, none⟩ = some (.int .i64 m1) ∧ w'.cell? ⟨w4.heap.size, 2, none⟩ = some (.int .i64 m2) ∧ w'.cell? ⟨w4.heap.size, 3, none⟩ = some (.slice a3 n3 cap3))) (fun _ h => h.2) ?_
      have hHeld2 : (u2.cell? ⟨w6.heap.size, 0, none⟩ = some (.slice ra al rcap) ∧ u2.cell? ⟨w8.heap.size, 0, none⟩ = some (.slice rb bl rbcap)) ∧ u2.cell? ⟨w.heap.size, 0, none⟩ = some (.int .i64 k0) ∧ u2.cell? ⟨w.heap.size, 1, none⟩ = some (.int .i64 k1) ∧ u2.cell? ⟨w.heap.size, 2, none⟩ = some (.int .i64 k2) ∧ u2.cell? ⟨w.heap.size, 3, none⟩ = some (.slice a1 n1 cap1) ∧ u2.cell? ⟨w4.heap.size, 0, none⟩ = some (.int .i64 m0) ∧ u2.cell? ⟨w4.heap.size, 1, none⟩ = some (.int .i64 m1) ∧ u2.cell? ⟨w4.heap.size, 2, none⟩ = some (.int .i64 m2) ∧ u2.cell? ⟨w4.heap.size, 3, none⟩ = some (.slice a3 n3 cap3) := ⟨⟨cA, cB⟩, hHeld⟩
      clear hHeld
      have hHeld := hHeld2
      clear hHeld2
      refine take_at (i := 10) (dst := some 74) (op := Op.binOp BinOp.eql 3 (Operand.tmp 72) (Operand.tmp 73) 3) (ty := 4) (aft := #[{ on := 8, ground := Ground.data }, { on := 9, ground := Ground.data }, { on := 5, ground := Ground.guard }]) (gd := some (5, true)) (v := ?_) rfl (by kernel_rfl) (by kernel_rfl) (by kernel_rfl) (fun _ _ _ h => h) (by rfl) ?_ hHeld ?_
      rotate_left
      · intro w hSw; (try dsimp only at hSw); go_simp; all_goals (with_reducible rfl)
      try simp only [Act.put, List.setIfInBounds_toArray, List.set_cons_zero, List.set_cons_succ]
      refine take_at (i := 11) (dst := some 75) (op := Op.pick (Operand.tmp 69) (Operand.tmp 74) (Operand.const (Value.bool false))) (ty := 4) (aft := #[{ on := 5, ground := Ground.data }, { on := 10, ground := Ground.data }]) (gd := none) (v := ?_) rfl (by kernel_rfl) (by kernel_rfl) (by kernel_rfl) (fun _ _ _ h => h) (by rfl) ?_ hHeld ?_
      rotate_left
      · intro w hSw; (try dsimp only at hSw); go_simp; all_goals (with_reducible rfl)
      try simp only [Act.put, List.setIfInBounds_toArray, List.set_cons_zero, List.set_cons_succ]
      refine take_at (i := 12) (dst := some 76) (op := Op.move (Operand.tmp 75)) (ty := 4) (aft := #[{ on := 11, ground := Ground.data }, { on := 8, ground := Ground.chain }]) (gd := none) (v := ?_) rfl (by kernel_rfl) (by kernel_rfl) (by kernel_rfl) (fun _ _ _ h => h) (by rfl) ?_ hHeld ?_
      rotate_left
      · intro w hSw; (try dsimp only at hSw); go_simp; all_goals (with_reducible rfl)
      try simp only [Act.put, List.setIfInBounds_toArray, List.set_cons_zero, List.set_cons_succ]
      refine take_at (i := 13) (dst := some 77) (op := Op.move (Operand.tmp 6)) (ty := 28) (aft := #[{ on := 12, ground := Ground.guard }]) (gd := some (12, true)) (v := ?_) rfl (by kernel_rfl) (by kernel_rfl) (by kernel_rfl) (fun _ _ _ h => h) (by rfl) ?_ hHeld ?_
      rotate_left
      · intro w hSw; (try dsimp only at hSw); go_simp; all_goals (with_reducible rfl)
      try simp only [Act.put, List.setIfInBounds_toArray, List.set_cons_zero, List.set_cons_succ]
      refine take_at (i := 14) (dst := some 78) (op := Op.move (Operand.tmp 14)) (ty := 33) (aft := #[{ on := 12, ground := Ground.guard }]) (gd := some (12, true)) (v := ?_) rfl (by kernel_rfl) (by kernel_rfl) (by kernel_rfl) (fun _ _ _ h => h) (by rfl) ?_ hHeld ?_
      rotate_left
      · intro w hSw; (try dsimp only at hSw); go_simp; all_goals (with_reducible rfl)
      try simp only [Act.put, List.setIfInBounds_toArray, List.set_cons_zero, List.set_cons_succ]
      refine take_at (i := 15) (dst := some 79) (op := Op.nilCheck (Operand.tmp 78)) (ty := 0) (aft := #[{ on := 14, ground := Ground.data }, { on := 12, ground := Ground.guard }]) (gd := some (12, true)) (v := ?_) rfl (by kernel_rfl) (by kernel_rfl) (by kernel_rfl) (fun _ _ _ h => h) (by rfl) ?_ hHeld ?_
      rotate_left
      · intro w hSw; (try dsimp only at hSw); go_simp; all_goals (with_reducible rfl)
      try simp only [Act.put, List.setIfInBounds_toArray, List.set_cons_zero, List.set_cons_succ]
      refine take_at (i := 16) (dst := some 80) (op := Op.fieldAddr 35 (Operand.tmp 79) 0) (ty := 0) (aft := #[{ on := 15, ground := Ground.data }, { on := 12, ground := Ground.guard }]) (gd := some (12, true)) (v := ?_) rfl (by kernel_rfl) (by kernel_rfl) (by kernel_rfl) (fun _ _ _ h => h) (by rfl) ?_ hHeld ?_
      rotate_left
      · intro w hSw; (try dsimp only at hSw); go_simp; all_goals (with_reducible rfl)
      try simp only [Act.put, List.setIfInBounds_toArray, List.set_cons_zero, List.set_cons_succ]
      refine take_at (i := 17) (dst := some 81) (op := Op.load 25 (Operand.tmp 80)) (ty := 25) (aft := #[{ on := 16, ground := Ground.data }, { on := 12, ground := Ground.guard }]) (gd := some (12, true)) (v := ?_) rfl (by kernel_rfl) (by kernel_rfl) (by kernel_rfl) (fun _ _ _ h => h) (by rfl) ?_ hHeld ?_
      rotate_left
      · intro w hSw; (try dsimp only at hSw); go_simp; all_goals (with_reducible rfl)
      try simp only [Act.put, List.setIfInBounds_toArray, List.set_cons_zero, List.set_cons_succ]
      refine wpAnyH_ready (rs := [18]) (by kernel_rfl) (by simp) ?_
      refine cons_at (dst := some 82) (op := Op.call { callee := Callee.value (Operand.func 9), args := #[Operand.tmp 77, Operand.tmp 81], argTypes := #[28, 25] }) (ty := 4) (aft := #[{ on := 13, ground := Ground.data }, { on := 17, ground := Ground.data }, { on := 12, ground := Ground.chain }, { on := 12, ground := Ground.guard }]) (gd := some (12, true)) rfl (fun K hK => ?_) AllReadyH.nil
      go_simp
      go_at_call 9; refine (holds_any ls v3 (false :: xs ++ nw) _ _ HOK.out (by omega) (HD5.out.below HC2.out) RA2.out).mono ?_; rintro e u3 ⟨rfl, hb3⟩; rw [HMT.out.1, HNN.out]; have HC3 := Lib.hid (HC2.out.trans (hb3.mono HC2.out.size)); have RA3 := Lib.hid (RA2.out.below hb3); have RB3 := Lib.hid (RB2.out.below hb3); have cA3 := (hb3.cell (p := ⟨w6.heap.size, 0, none⟩) hltA).trans cA; have cB3 := (hb3.cell (p := ⟨w8.heap.size, 0, none⟩) hltB).trans cB; have hltA3 := Nat.lt_of_lt_of_le hltA hb3.size; have hltB3 := Nat.lt_of_lt_of_le hltB hb3.size; clear hb3
      go_simp
      refine hK.out _ _ ?_ (fun hHeld2 => ?_)
      · exact ⟨⟨cA3, cB3⟩, HK.out _ HC3.out⟩
      clear hK K hHeld
      have hHeld := hHeld2
      clear hHeld2
      try simp only [Act.put, List.setIfInBounds_toArray, List.set_cons_zero, List.set_cons_succ]
      refine take_at (i := 19) (dst := some 83) (op := Op.pick (Operand.tmp 76) (Operand.tmp 82) (Operand.const (Value.bool false))) (ty := 4) (aft := #[{ on := 12, ground := Ground.data }, { on := 18, ground := Ground.data }]) (gd := none) (v := ?_) rfl (by kernel_rfl) (by kernel_rfl) (by kernel_rfl) (fun _ _ _ h => h) (by rfl) ?_ hHeld ?_
      rotate_left
      · intro w hSw; (try dsimp only at hSw); go_simp; all_goals (with_reducible rfl)
      try simp only [Act.put, List.setIfInBounds_toArray, List.set_cons_zero, List.set_cons_succ]
      refine take_at (i := 20) (dst := some 84) (op := Op.move (Operand.tmp 83)) (ty := 4) (aft := #[{ on := 19, ground := Ground.data }, { on := 18, ground := Ground.chain }]) (gd := none) (v := ?_) rfl (by kernel_rfl) (by kernel_rfl) (by kernel_rfl) (fun _ _ _ h => h) (by rfl) ?_ hHeld ?_
      rotate_left
      · intro w hSw; (try dsimp only at hSw); go_simp; all_goals (with_reducible rfl)
      try simp only [Act.put, List.setIfInBounds_toArray, List.set_cons_zero, List.set_cons_succ]
      refine take_at (i := 21) (dst := some 85) (op := Op.move (Operand.tmp 11)) (ty := 28) (aft := #[{ on := 20, ground := Ground.guard }]) (gd := some (20, true)) (v := ?_) rfl (by kernel_rfl) (by kernel_rfl) (by kernel_rfl) (fun _ _ _ h => h) (by rfl) ?_ hHeld ?_
      rotate_left
      · intro w hSw; (try dsimp only at hSw); go_simp; all_goals (with_reducible rfl)
      try simp only [Act.put, List.setIfInBounds_toArray, List.set_cons_zero, List.set_cons_succ]
      refine take_at (i := 22) (dst := some 86) (op := Op.move (Operand.tmp 15)) (ty := 33) (aft := #[{ on := 20, ground := Ground.guard }]) (gd := some (20, true)) (v := ?_) rfl (by kernel_rfl) (by kernel_rfl) (by kernel_rfl) (fun _ _ _ h => h) (by rfl) ?_ hHeld ?_
      rotate_left
      · intro w hSw; (try dsimp only at hSw); go_simp; all_goals (with_reducible rfl)
      try simp only [Act.put, List.setIfInBounds_toArray, List.set_cons_zero, List.set_cons_succ]
      refine take_at (i := 23) (dst := some 87) (op := Op.nilCheck (Operand.tmp 86)) (ty := 0) (aft := #[{ on := 22, ground := Ground.data }, { on := 20, ground := Ground.guard }]) (gd := some (20, true)) (v := ?_) rfl (by kernel_rfl) (by kernel_rfl) (by kernel_rfl) (fun _ _ _ h => h) (by rfl) ?_ hHeld ?_
      rotate_left
      · intro w hSw; (try dsimp only at hSw); go_simp; all_goals (with_reducible rfl)
      try simp only [Act.put, List.setIfInBounds_toArray, List.set_cons_zero, List.set_cons_succ]
      refine take_at (i := 24) (dst := some 88) (op := Op.fieldAddr 35 (Operand.tmp 87) 0) (ty := 0) (aft := #[{ on := 23, ground := Ground.data }, { on := 20, ground := Ground.guard }]) (gd := some (20, true)) (v := ?_) rfl (by kernel_rfl) (by kernel_rfl) (by kernel_rfl) (fun _ _ _ h => h) (by rfl) ?_ hHeld ?_
      rotate_left
      · intro w hSw; (try dsimp only at hSw); go_simp; all_goals (with_reducible rfl)
      try simp only [Act.put, List.setIfInBounds_toArray, List.set_cons_zero, List.set_cons_succ]
      refine take_at (i := 25) (dst := some 89) (op := Op.load 25 (Operand.tmp 88)) (ty := 25) (aft := #[{ on := 24, ground := Ground.data }, { on := 20, ground := Ground.guard }]) (gd := some (20, true)) (v := ?_) rfl (by kernel_rfl) (by kernel_rfl) (by kernel_rfl) (fun _ _ _ h => h) (by rfl) ?_ hHeld ?_
      rotate_left
      · intro w hSw; (try dsimp only at hSw); go_simp; all_goals (with_reducible rfl)
      try simp only [Act.put, List.setIfInBounds_toArray, List.set_cons_zero, List.set_cons_succ]
      refine wpAnyH_ready (rs := [26]) (by kernel_rfl) (by simp) ?_
      refine cons_at (dst := some 90) (op := Op.call { callee := Callee.value (Operand.func 9), args := #[Operand.tmp 85, Operand.tmp 89], argTypes := #[28, 25] }) (ty := 4) (aft := #[{ on := 21, ground := Ground.data }, { on := 25, ground := Ground.data }, { on := 20, ground := Ground.chain }, { on := 20, ground := Ground.guard }]) (gd := some (20, true)) rfl (fun K hK => ?_) AllReadyH.nil
      go_simp
      go_at_call 9; refine (holds_any lsS v5 (false :: xs ++ nwS) _ _ HOKS.out (by omega) (HDS.out.below HC3.out) RB3.out).mono ?_; rintro e u4 ⟨rfl, hb4⟩; rw [HLIS.out]; have HC4 := Lib.hid (HC3.out.trans (hb4.mono HC3.out.size)); have RA4 := Lib.hid (RA3.out.below hb4); have RB4 := Lib.hid (RB3.out.below hb4); have cA4 := (hb4.cell (p := ⟨w6.heap.size, 0, none⟩) hltA3).trans cA3; have cB4 := (hb4.cell (p := ⟨w8.heap.size, 0, none⟩) hltB3).trans cB3; clear hb4
      go_simp
      refine hK.out _ _ ?_ (fun hHeld2 => ?_)
      · exact ⟨⟨cA4, cB4⟩, HK.out _ HC4.out⟩
      clear hK K hHeld
      have hHeld := hHeld2
      clear hHeld2
      try simp only [Act.put, List.setIfInBounds_toArray, List.set_cons_zero, List.set_cons_succ]
      refine take_at (i := 27) (dst := some 91) (op := Op.pick (Operand.tmp 84) (Operand.tmp 90) (Operand.const (Value.bool false))) (ty := 4) (aft := #[{ on := 20, ground := Ground.data }, { on := 26, ground := Ground.data }]) (gd := none) (v := ?_) rfl (by kernel_rfl) (by kernel_rfl) (by kernel_rfl) (fun _ _ _ h => h) (by rfl) ?_ hHeld ?_
      rotate_left
      · intro w hSw; (try dsimp only at hSw); go_simp; all_goals (with_reducible rfl)
      try simp only [Act.put, List.setIfInBounds_toArray, List.set_cons_zero, List.set_cons_succ]
      refine take_at (i := 28) (dst := some 92) (op := Op.move (Operand.tmp 91)) (ty := 4) (aft := #[{ on := 27, ground := Ground.data }, { on := 26, ground := Ground.chain }]) (gd := none) (v := ?_) rfl (by kernel_rfl) (by kernel_rfl) (by kernel_rfl) (fun _ _ _ h => h) (by rfl) ?_ hHeld ?_
      rotate_left
      · intro w hSw; (try dsimp only at hSw); go_simp; all_goals (with_reducible rfl)
      try simp only [Act.put, List.setIfInBounds_toArray, List.set_cons_zero, List.set_cons_succ]
      refine take_at (i := 29) (dst := some 93) (op := Op.move (Operand.tmp 5)) (ty := 3) (aft := #[{ on := 28, ground := Ground.guard }]) (gd := some (28, true)) (v := ?_) rfl (by kernel_rfl) (by kernel_rfl) (by kernel_rfl) (fun _ _ _ h => h) (by rfl) ?_ hHeld ?_
      rotate_left
      · intro w hSw; (try dsimp only at hSw); go_simp; all_goals (with_reducible rfl)
      try simp only [Act.put, List.setIfInBounds_toArray, List.set_cons_zero, List.set_cons_succ]
      refine take_at (i := 30) (dst := some 94) (op := Op.move (Operand.tmp 14)) (ty := 33) (aft := #[{ on := 28, ground := Ground.guard }]) (gd := some (28, true)) (v := ?_) rfl (by kernel_rfl) (by kernel_rfl) (by kernel_rfl) (fun _ _ _ h => h) (by rfl) ?_ hHeld ?_
      rotate_left
      · intro w hSw; (try dsimp only at hSw); go_simp; all_goals (with_reducible rfl)
      try simp only [Act.put, List.setIfInBounds_toArray, List.set_cons_zero, List.set_cons_succ]
      refine take_at (i := 31) (dst := some 95) (op := Op.nilCheck (Operand.tmp 94)) (ty := 0) (aft := #[{ on := 30, ground := Ground.data }, { on := 28, ground := Ground.guard }]) (gd := some (28, true)) (v := ?_) rfl (by kernel_rfl) (by kernel_rfl) (by kernel_rfl) (fun _ _ _ h => h) (by rfl) ?_ hHeld ?_
      rotate_left
      · intro w hSw; (try dsimp only at hSw); go_simp; all_goals (with_reducible rfl)
      try simp only [Act.put, List.setIfInBounds_toArray, List.set_cons_zero, List.set_cons_succ]
      refine take_at (i := 32) (dst := some 96) (op := Op.fieldAddr 35 (Operand.tmp 95) 0) (ty := 0) (aft := #[{ on := 31, ground := Ground.data }, { on := 28, ground := Ground.guard }]) (gd := some (28, true)) (v := ?_) rfl (by kernel_rfl) (by kernel_rfl) (by kernel_rfl) (fun _ _ _ h => h) (by rfl) ?_ hHeld ?_
      rotate_left
      · intro w hSw; (try dsimp only at hSw); go_simp; all_goals (with_reducible rfl)
      try simp only [Act.put, List.setIfInBounds_toArray, List.set_cons_zero, List.set_cons_succ]
      refine take_at (i := 35) (dst := some 99) (op := Op.move (Operand.tmp 10)) (ty := 3) (aft := #[{ on := 28, ground := Ground.guard }]) (gd := some (28, true)) (v := ?_) rfl (by kernel_rfl) (by kernel_rfl) (by kernel_rfl) (fun _ _ _ h => h) (by rfl) ?_ hHeld ?_
      rotate_left
      · intro w hSw; (try dsimp only at hSw); go_simp; all_goals (with_reducible rfl)
      try simp only [Act.put, List.setIfInBounds_toArray, List.set_cons_zero, List.set_cons_succ]
      refine take_at (i := 36) (dst := some 100) (op := Op.move (Operand.tmp 15)) (ty := 33) (aft := #[{ on := 28, ground := Ground.guard }]) (gd := some (28, true)) (v := ?_) rfl (by kernel_rfl) (by kernel_rfl) (by kernel_rfl) (fun _ _ _ h => h) (by rfl) ?_ hHeld ?_
      rotate_left
      · intro w hSw; (try dsimp only at hSw); go_simp; all_goals (with_reducible rfl)
      try simp only [Act.put, List.setIfInBounds_toArray, List.set_cons_zero, List.set_cons_succ]
      refine take_at (i := 37) (dst := some 101) (op := Op.nilCheck (Operand.tmp 100)) (ty := 0) (aft := #[{ on := 36, ground := Ground.data }, { on := 28, ground := Ground.guard }]) (gd := some (28, true)) (v := ?_) rfl (by kernel_rfl) (by kernel_rfl) (by kernel_rfl) (fun _ _ _ h => h) (by rfl) ?_ hHeld ?_
      rotate_left
      · intro w hSw; (try dsimp only at hSw); go_simp; all_goals (with_reducible rfl)
      try simp only [Act.put, List.setIfInBounds_toArray, List.set_cons_zero, List.set_cons_succ]
      refine take_at (i := 38) (dst := some 102) (op := Op.fieldAddr 35 (Operand.tmp 101) 0) (ty := 0) (aft := #[{ on := 37, ground := Ground.data }, { on := 28, ground := Ground.guard }]) (gd := some (28, true)) (v := ?_) rfl (by kernel_rfl) (by kernel_rfl) (by kernel_rfl) (fun _ _ _ h => h) (by rfl) ?_ hHeld ?_
      rotate_left
      · intro w hSw; (try dsimp only at hSw); go_simp; all_goals (with_reducible rfl)
      try simp only [Act.put, List.setIfInBounds_toArray, List.set_cons_zero, List.set_cons_succ]
      refine take_at (i := 33) (dst := some 97) (op := Op.load 25 (Operand.tmp 96)) (ty := 25) (aft := #[{ on := 32, ground := Ground.data }, { on := 28, ground := Ground.guard }]) (gd := some (28, true)) (v := ?_) rfl (by kernel_rfl) (by kernel_rfl) (by kernel_rfl) (fun _ _ _ h => h) (by rfl) ?_ hHeld ?_
      rotate_left
      · intro w hSw; (try dsimp only at hSw); go_simp; all_goals (with_reducible rfl)
      try simp only [Act.put, List.setIfInBounds_toArray, List.set_cons_zero, List.set_cons_succ]
      refine take_at (i := 39) (dst := some 103) (op := Op.load 25 (Operand.tmp 102)) (ty := 25) (aft := #[{ on := 38, ground := Ground.data }, { on := 28, ground := Ground.guard }]) (gd := some (28, true)) (v := ?_) rfl (by kernel_rfl) (by kernel_rfl) (by kernel_rfl) (fun _ _ _ h => h) (by rfl) ?_ hHeld ?_
      rotate_left
      · intro w hSw; (try dsimp only at hSw); go_simp; all_goals (with_reducible rfl)
      try simp only [Act.put, List.setIfInBounds_toArray, List.set_cons_zero, List.set_cons_succ]
      refine wpAnyH_ready (rs := [34]) (by kernel_rfl) (by simp) ?_
      refine cons_at (dst := some 98) (op := Op.call { callee := Callee.value (Operand.func 10), args := #[Operand.tmp 93, Operand.tmp 97], argTypes := #[3, 25] }) (ty := 4) (aft := #[{ on := 29, ground := Ground.data }, { on := 33, ground := Ground.data }, { on := 28, ground := Ground.chain }, { on := 28, ground := Ground.guard }]) (gd := some (28, true)) rfl (fun K hK => ?_) AllReadyH.nil
      go_simp
      go_at_call 10; (with_reducible refine (truth_any lit (false :: xs ++ nw) _ _ (by omega) RA4.out).mono ?_); rintro e u5 ⟨rfl, rfl⟩; rw [HMT.out.2]
      go_simp
      refine hK.out _ _ ?_ (fun hHeld2 => ?_)
      · exact ⟨⟨cA4, cB4⟩, HK.out _ HC4.out⟩
      clear hK K hHeld
      have hHeld := hHeld2
      clear hHeld2
      try simp only [Act.put, List.setIfInBounds_toArray, List.set_cons_zero, List.set_cons_succ]
      refine wpAnyH_ready (rs := [40]) (by kernel_rfl) (by simp) ?_
      refine cons_at (dst := some 104) (op := Op.call { callee := Callee.value (Operand.func 10), args := #[Operand.tmp 99, Operand.tmp 103], argTypes := #[3, 25] }) (ty := 4) (aft := #[{ on := 35, ground := Ground.data }, { on := 39, ground := Ground.data }, { on := 34, ground := Ground.chain }, { on := 28, ground := Ground.guard }]) (gd := some (28, true)) rfl (fun K hK => ?_) AllReadyH.nil
      go_simp
      go_at_call 10; (with_reducible refine (truth_any litS (false :: xs ++ nwS) _ _ (by omega) RB4.out).mono ?_); rintro e u5 ⟨rfl, rfl⟩; rw [HTRS.out]
      go_simp
      refine hK.out _ _ ?_ (fun hHeld2 => ?_)
      · exact ⟨⟨cA4, cB4⟩, HK.out _ HC4.out⟩
      clear hK K hHeld
      have hHeld := hHeld2
      clear hHeld2
      try simp only [Act.put, List.setIfInBounds_toArray, List.set_cons_zero, List.set_cons_succ]
      refine take_at (i := 41) (dst := some 105) (op := Op.binOp BinOp.eql 4 (Operand.tmp 98) (Operand.tmp 104) 4) (ty := 4) (aft := #[{ on := 34, ground := Ground.data }, { on := 40, ground := Ground.data }, { on := 28, ground := Ground.guard }]) (gd := some (28, true)) (v := ?_) rfl (by kernel_rfl) (by kernel_rfl) (by kernel_rfl) (fun _ _ _ h => h) (by rfl) ?_ hHeld ?_
      rotate_left
      · intro w hSw; (try dsimp only at hSw); go_simp; all_goals (with_reducible rfl)
      try simp only [Act.put, List.setIfInBounds_toArray, List.set_cons_zero, List.set_cons_succ]
      refine take_at (i := 42) (dst := some 106) (op := Op.pick (Operand.tmp 92) (Operand.tmp 105) (Operand.const (Value.bool false))) (ty := 4) (aft := #[{ on := 28, ground := Ground.data }, { on := 41, ground := Ground.data }]) (gd := none) (v := ?_) rfl (by kernel_rfl) (by kernel_rfl) (by kernel_rfl) (fun _ _ _ h => h) (by rfl) ?_ hHeld ?_
      rotate_left
      · intro w hSw; (try dsimp only at hSw); go_simp; all_goals (with_reducible rfl)
      try simp only [Act.put, List.setIfInBounds_toArray, List.set_cons_zero, List.set_cons_succ]
      refine take_at (i := 43) (dst := some 4) (op := Op.assign (Operand.tmp 106)) (ty := 4) (aft := #[{ on := 42, ground := Ground.data }, { on := 40, ground := Ground.chain }, { on := 0, ground := Ground.phase }, { on := 1, ground := Ground.phase }, { on := 2, ground := Ground.phase }, { on := 3, ground := Ground.phase }, { on := 4, ground := Ground.phase }, { on := 5, ground := Ground.phase }, { on := 6, ground := Ground.phase }, { on := 7, ground := Ground.phase }, { on := 8, ground := Ground.phase }, { on := 9, ground := Ground.phase }, { on := 10, ground := Ground.phase }, { on := 11, ground := Ground.phase }, { on := 12, ground := Ground.phase }, { on := 13, ground := Ground.phase }, { on := 14, ground := Ground.phase }, { on := 15, ground := Ground.phase }, { on := 16, ground := Ground.phase }, { on := 17, ground := Ground.phase }, { on := 18, ground := Ground.phase }, { on := 19, ground := Ground.phase }, { on := 20, ground := Ground.phase }, { on := 21, ground := Ground.phase }, { on := 22, ground := Ground.phase }, { on := 23, ground := Ground.phase }, { on := 24, ground := Ground.phase }, { on := 25, ground := Ground.phase }, { on := 26, ground := Ground.phase }, { on := 27, ground := Ground.phase }, { on := 28, ground := Ground.phase }, { on := 29, ground := Ground.phase }, { on := 30, ground := Ground.phase }, { on := 31, ground := Ground.phase }, { on := 32, ground := Ground.phase }, { on := 33, ground := Ground.phase }, { on := 34, ground := Ground.phase }, { on := 35, ground := Ground.phase }, { on := 36, ground := Ground.phase }, { on := 37, ground := Ground.phase }, { on := 38, ground := Ground.phase }, { on := 39, ground := Ground.phase }, { on := 40, ground := Ground.phase }, { on := 41, ground := Ground.phase }, { on := 42, ground := Ground.phase }]) (gd := none) (v := ?_) rfl (by kernel_rfl) (by kernel_rfl) (by kernel_rfl) (fun _ _ _ h => h) (by rfl) ?_ hHeld ?_
      rotate_left
      · intro w hSw; (try dsimp only at hSw); go_simp; all_goals (with_reducible rfl)
      try simp only [Act.put, List.setIfInBounds_toArray, List.set_cons_zero, List.set_cons_succ]
      refine wpAnyH_done (by kernel_rfl) ?_ _
      refine NoPanic.normal ?_
      all_goals
        have HBF := Lib.hid (HB5.out.trans (HC4.out.mono HB5.out.size))
        go_wp2_with fail
        go_ret
        exact ⟨by simp, HBF.out⟩
    · have hg := gatesF_err t _ herr
      have hne : ((gatesF t ((xs.length : Int) + 1)).2.2.2 != 0) = true := by simpa using herr
      generalize (gatesF t ((xs.length : Int) + 1)).2.2.2 = ec at *
      rw [hg] at HD3 ⊢
      simp only at HD3 ⊢
      obtain ⟨a, b, o, cap, he, _⟩ := lins_open HD3.out
      simp only [List.cons.injEq, and_true, List.length_nil] at he
      subst he
      clear hg herr
      go_wp2_with fail
      go_ret
      exact ⟨rfl, HB3.out⟩

end Go.Proofs.YtpacnaeckbcpjaaDoor
