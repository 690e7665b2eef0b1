/- GateRuns: for every ground formula, assignment and turn, where what comes in is of bulk at most 1048576, the law returns true. -/
import Derived.Test.YtpacnaeckbcpjaaLawMeans
import Derived.Test.YtpacnaeckbcpjaaReader
import Derived.Deep.RegionHeld3
namespace Go.Proofs.Ytpacnaeckbcpjaa
open Go.ChangeShapes Go.WideShapes Go.ChangeAt Go.RowKit Go.Chalk

theorem own_none {w : World} {F : Nat → Prop} {e : TypeId} {sz : Nat} {v : Value} {r : Option Nat} {xs : List Bool} (h : Chalk.Own w F e sz v r (dbools xs)) : Chalk.Own w (fun _ => False) e sz v r (dbools xs) := by
  obtain ⟨cs, h1, h2⟩ := h.cells
  exact ⟨⟨cs, h1, by rw [bools_inv h2]; exact DsAt.bools⟩, h.row, fun _ _ => id, fun _ h => h.elim⟩

theorem flip_cell {w : World} {F : Nat → Prop} {e : TypeId} {ra : Option Addr} {cap n : Nat} {r : Option Nat} {xs : List Bool} (h : Chalk.Own w F e 1 (.slice ra n cap) r (dbools xs)) (hn : xs.length = n) (j : Nat) (bb : Bool) (hj : xs[j]? = some bb) (b : Bool) :
    ∃ g, ra = some ⟨g, 0, none⟩ ∧ r = some g ∧ w.cell? ⟨g, j, none⟩ = some (.bool bb) ∧ w.frozen? ⟨g, j, none⟩ = false ∧ n ≤ cap ∧ cap ≤ maxLen ∧
      ∀ W : World, Below w.heap.size w W → DAt (W.setCell ⟨g, j, none⟩ (.bool b)) (· < (W.setCell ⟨g, j, none⟩ (.bool b)).heap.size) (.sl (dbools (xs.set j b))) [.slice ra n cap] := by
  subst hn
  obtain ⟨hj', rfl⟩ := List.getElem?_eq_some_iff.1 hj
  clear hj
  have hj := hj'
  obtain ⟨cs, h1, h2⟩ := h.cells
  rw [bools_inv h2, dbools_length] at h1
  have h1' := h1
  obtain ⟨hlen, h1⟩ := h1
  rcases h1 with ⟨hv, hn⟩ | ⟨g, cap', cur, hv, _, hh, hc1, hc2, hc3, hc4⟩
  · omega
  · obtain ⟨rfl, _, rfl⟩ := hv
    have hg := (Array.getElem?_eq_some_iff.1 hh).1
    have hc : ∀ i (hi : i < xs.length), w.cell? ⟨g, i, none⟩ = some (.bool xs[i]) := fun i hi => by
      have := h1'.cellAt (g := g) (cap := cap) i (by simpa using hi)
      rw [this]; simp [hi]
    refine ⟨g, rfl, h.row.symm, hc j hj, frozen_of_heap hh, hc1, hc2, fun W hb => ?_⟩
    have hl : (xs.set j b).length = xs.length := by simp
    have := DAt.slice (w := W.setCell ⟨g, j, none⟩ (.bool b)) (F := (· < (W.setCell ⟨g, j, none⟩ (.bool b)).heap.size)) (xs := dbools (xs.set j b)) (b := g) (o := 0) (cap := cap) (a := some ⟨g, 0, none⟩) (fun _ => ⟨rfl, by have := hb.size; simp; omega⟩) (by simpa using hc1) hc2 (RowAt.mk DsAt.bools (fun i hi => ?_))
    · rwa [dbools_length, hl] at this
    · have hi' : i < xs.length := by simpa using hi
      have hcW : ∀ i (hi : i < xs.length), W.cell? ⟨g, i, none⟩ = some (.bool xs[i]) := fun i hi => (hb.cell (p := ⟨g, i, none⟩) hg).trans (hc i hi)
      simp only [Nat.zero_add, List.getElem_map]
      by_cases hij : j = i
      · subst hij
        rw [World.cell?_setCell_same W _ _ (hcW j hj)]; simp
      · rw [World.cell?_setCell_other W _ _ _ (by simp [hij]), hcW i hi', List.getElem_set_ne hij]

theorem step_append_srcg {P : Program} {w : World} {ops : Array Oper} {o : Oper} {act : Act} {K : Act → World → Prop} {Q : Exit → Act → World → Prop} {E : Prop} (hgd : Region.wanted o (yielded ops act.tmps) = true) (s x : Operand) (t : TypeId)
    (ho : o.op = .call { callee := .builtin .append, args := #[s, x], argTypes := #[t, t] }) (e : TypeId) (i : TypeInfo) (z : Value) (size bytes : Nat) (ht : P.underlying t = some (.slice e)) (hi : P.info? e = some i) (hz : i.zero = some z)
    (hsize : i.size = size) (hby : i.bytes = bytes) (hzs : z.cells.size = size) (hsz : 0 < size) (v u : Value) (F : Nat → Prop) (r : Option Nat) (xs ys : List D) (hs : act.eval s = v) (hx : act.eval x = u) (own : Chalk.Own w F e size v r xs) (src : DAt w F (.sl ys) [u])
    (hw : widths ys = ys.length * size) (h63 : xs.length + ys.length ≤ maxLen) (hbytes : (xs.length + ys.length) * bytes ≤ 140737488355328)
    (h : ∀ a cap r' w', Chalk.Own w' F e size (.slice a (xs.length + ys.length) cap) r' (xs ++ ys) → Chalk.Mod (fun k => r = some k) w w' → (r' = r ∨ r' = some w.heap.size) → K (act.put o.dst (.slice a (xs.length + ys.length) cap)) w') :
    if Region.wanted o (yielded ops act.tmps) = true then Oper.wp P o act w K Q else E := by
  rw [if_pos hgd]
  exact wp_append_src w s x t ho e i z size bytes ht hi hz hsize hby hzs hsz v u F r xs ys hs hx own src hw h63 hbytes h

theorem runs_below {w4 w5 : World} {o : Obj} (h : Chalk.Mod (fun k => some w4.heap.size = some k) (w4.alloc o) w5) : Below w4.heap.size w4 w5 :=
  ((Below.refl w4.heap.size w4).alloc (Nat.le_refl _) o).trans (h.below (by show w4.heap.size ≤ (w4.alloc o).heap.size; simp) (fun k hk => by simp at hk; omega))

set_option maxRecDepth 100000 in
set_option maxHeartbeats 2000000 in
theorem runs_walk (t : Tr) (x : Value) (xs : List Bool) (u : Value) (turn : Int) (w : World) (hs : t.size ≤ 2000000) (ht : TreeV w (· < w.heap.size) t x) (hxb : xs.length ≤ 2000000) (hx : DAt w (· < w.heap.size) (.sl (dbools xs)) [u]) (htu : -9223372036854775808 ≤ turn ∧ turn ≤ 9223372036854775807) :
    Calls Try.prog 8 #[x, u, .int .i64 turn] w fun e w' => e = .returned (.bool true) ∧ Below w.heap.size w w' := by
  have HT := Lib.hid ht
  have HX := Lib.hid hx
  obtain ⟨c0, c1, c2, c3, rfl, h⟩ := ht
  obtain ⟨k0, k1, k2, a1, n1, cap1, rfl, rfl, rfl, rfl⟩ := TreeV.shape h
  obtain ⟨xa, xb, xo, xcap, hev, _⟩ := hx.open_bools
  simp only [List.cons.injEq, and_true] at hev
  subst hev
  clear h hx
  obtain ⟨i0, hi, hz0, hz1, hz2⟩ := info_parts bool_info
  go_enter Try.func8, Try.ntmps8
  go_wp2_with fail
  refine (live_any _).mono ?_
  rintro e w1 ⟨rfl, hb1⟩
  obtain ⟨q0, q1, q2, q3⟩ := boxed4 hb1 (by simp)
  have hbb := Below.ahead hb1 (by simp)
  have HB1 := Lib.hid hbb
  have hlt1 : w.heap.size < w1.heap.size := by have := hb1.size; simp at this; omega
  clear hb1 hbb
  go_wp2_with fail
  refine (size_any _ t _ _ (Nat.le_refl _) hs (HT.out.later HB1.out HB1.out.size)).mono ?_
  rintro e w2 ⟨rfl, hb2⟩
  have p0 := (hb2.cell (p := ⟨w.heap.size, 0, none⟩) hlt1).trans q0
  have p1 := (hb2.cell (p := ⟨w.heap.size, 1, none⟩) hlt1).trans q1
  have p2 := (hb2.cell (p := ⟨w.heap.size, 2, none⟩) hlt1).trans q2
  have p3 := (hb2.cell (p := ⟨w.heap.size, 3, none⟩) hlt1).trans q3
  have hlt2 : w.heap.size < w2.heap.size := by have := hb2.size; omega
  have HB2 := Lib.hid (HB1.out.trans (hb2.mono HB1.out.size))
  clear hb2 q0 q1 q2 q3
  by_cases hbig : 400 < t.size
  · have hbig' : decide ((400 : Int) < (t.size : Int)) = true := by simp; omega
    go_wp2_with fail
    go_ret
    exact ⟨rfl, HB2.out⟩
  by_cases hbig2 : 60 < xs.length
  · have hbig' : decide ((400 : Int) < (t.size : Int)) = false := by simp; omega
    have hbig2' : decide ((60 : Int) < (xs.length : Int)) = true := by simp; omega
    go_wp2_with fail
    go_ret
    exact ⟨rfl, HB2.out⟩
  by_cases htn : turn < 0
  · have hbig' : decide ((400 : Int) < (t.size : Int)) = false := by simp; omega
    have hbig2' : decide ((60 : Int) < (xs.length : Int)) = false := by simp; omega
    have htn' : decide (turn < 0) = true := by simp; omega
    go_wp2_with fail
    go_ret
    exact ⟨rfl, HB2.out⟩
  · have hbig' : decide ((400 : Int) < (t.size : Int)) = false := by simp; omega
    have hbig2' : decide ((60 : Int) < (xs.length : Int)) = false := by simp; omega
    have htn' : decide (turn < 0) = false := by simp; omega
    have HTS : Hid (t.size ≤ 400) := by show _ ≤ _; omega
    generalize hts : (t.size : Int) = ts at *
    clear hts hs hxb
    go_wp2_with fail
    refine (gates_any t _ ((xs.length : Int) + 1) _ (by have := HTS.out; omega) (HT.out.later HB2.out HB2.out.size)).mono ?_
    rintro e w3 ⟨v3, rfl, hN3, hb3⟩
    have q0 := (hb3.cell (p := ⟨w.heap.size, 0, none⟩) hlt2).trans p0
    have q1 := (hb3.cell (p := ⟨w.heap.size, 1, none⟩) hlt2).trans p1
    have q2 := (hb3.cell (p := ⟨w.heap.size, 2, none⟩) hlt2).trans p2
    have q3 := (hb3.cell (p := ⟨w.heap.size, 3, none⟩) hlt2).trans p3
    have HB3 := Lib.hid (HB2.out.trans (hb3.mono HB2.out.size))
    have hlt3 : w.heap.size < w3.heap.size := by have := hb3.size; omega
    have HD3 : Hid (DAt w3 (· < w3.heap.size) (.sl ((gatesF t ((xs.length : Int) + 1)).2.1.map Lin.toD)) [v3]) := DAt.mono (fun k hk => hk.2) _ _ hN3
    clear hb3 hN3 p0 p1 p2 p3
    by_cases herr : (gatesF t ((xs.length : Int) + 1)).2.2.2 = 0
    · obtain ⟨hce, hwd, hov, hgt⟩ : checkE t (xs.length : Int) = 0 ∧ wideB t = false ∧ (litF t ((xs.length : Int) + 1)).2.2 ≤ 65537 ∧ gatesF t ((xs.length : Int) + 1) = ((litF t ((xs.length : Int) + 1)).1, (litF t ((xs.length : Int) + 1)).2.1, (litF t ((xs.length : Int) + 1)).2.2, 0) := by
        rcases gatesF_cases t ((xs.length : Int) + 1) (by omega) (by omega) with ⟨hc, hg⟩ | ⟨hc, hw, hg⟩ | ⟨hc, hw, hov, hg⟩ | ⟨hc, hw, hov, hg⟩
        · rw [hg] at herr; exact absurd herr hc
        · rw [hg] at herr; exact absurd herr (by decide)
        · rw [hg] at herr; exact absurd herr (by decide)
        · exact ⟨by rwa [show (xs.length : Int) + 1 - 1 = (xs.length : Int) from by omega] at hc, hw, hov, hg⟩
      have hmay := (checkE_ok hce).2.2.1
      have hbd := litF_bound t ((xs.length : Int) + 1) _ hmay (by omega)
      have hok := litF_ok t ((xs.length : Int) + 1) _ hmay (by omega) (by omega) hwd
      have hnl := litF_lins t ((xs.length : Int) + 1)
      have hnv := newsV_length t (false :: xs) ((xs.length : Int) + 1) _ hmay
      have hmain : ∀ c : List Bool, c.length = (newsV t (false :: xs)).length → linsV (litF t ((xs.length : Int) + 1)).2.1 (false :: xs ++ c) = (c == newsV t (false :: xs)) ∧ truthF (litF t ((xs.length : Int) + 1)).1 (false :: xs ++ newsV t (false :: xs)) = valT t (false :: xs) := fun c hc => by
        have h := litF_main t _ (false :: xs) c [] hmay (by simp; omega) (by simp) hc
        rw [List.length_cons, Int.natCast_add, Int.natCast_one, List.append_nil, List.append_nil] at h
        exact h
      rw [hgt] at HD3 ⊢
      simp only at HD3 ⊢
      have HOK : Hid (∀ s ∈ (litF t ((xs.length : Int) + 1)).2.1, LinOk s 65536) := fun s hs => (hok s hs).mono (by omega)
      have HMAIN := Lib.hid hmain
      have HMAY := Lib.hid hmay
      have HS20 : Hid (t.size ≤ 2000000) := by have := HTS.out; show _ ≤ _; omega
      have HXN : Hid ((xs.length : Int) ≤ 1000000) := by show _ ≤ _; omega
      have hsz60 := HTS.out
      have hafter : (litF t ((xs.length : Int) + 1)).2.2 = (xs.length : Int) + 1 + ((newsV t (false :: xs)).length : Int) := by omega
      have hxr : -1000 ≤ (litF t ((xs.length : Int) + 1)).1 ∧ (litF t ((xs.length : Int) + 1)).1 ≤ 1000 := by omega
      have hll : (litF t ((xs.length : Int) + 1)).2.1.length ≤ 2000 := by omega
      have hm60 : (newsV t (false :: xs)).length ≤ 400 := by omega
      rw [hafter]
      have HCE := Lib.hid hce
      have HLF : Hid ((litF t ((xs.length : Int) + 1)).1 = (litF t ((false :: xs).length : Int)).1) := by rw [List.length_cons, Int.natCast_add, Int.natCast_one]; exact rfl
      clear hok hce hwd hgt herr hmay hbd hov hnl hmain hnv hafter
      generalize (litF t ((xs.length : Int) + 1)).1 = lit at *
      generalize (litF t ((xs.length : Int) + 1)).2.1 = ls at *
      generalize hnw : newsV t (false :: xs) = nw at *
      generalize hvt : valT t (false :: xs) = vt at *
      have HVT := Lib.hid hvt
      have HNW := Lib.hid hnw
      clear hnw hvt
      have e1 : ((0 : Int) != 0) = false := rfl
      have HX3 := Lib.hid (HX.out.below HB3.out)
      go_wp2_with fail
      refine (check_any t _ (xs.length : Int) _ (by have := HTS.out; omega) (HT.out.later HB3.out HB3.out.size)).mono ?_
      rintro e w4 ⟨rfl, hb4⟩
      rw [HCE.out]
      have p0 := (hb4.cell (p := ⟨w.heap.size, 0, none⟩) hlt3).trans q0
      have p1 := (hb4.cell (p := ⟨w.heap.size, 1, none⟩) hlt3).trans q1
      have p2 := (hb4.cell (p := ⟨w.heap.size, 2, none⟩) hlt3).trans q2
      have p3 := (hb4.cell (p := ⟨w.heap.size, 3, none⟩) hlt3).trans q3
      have HB4 := Lib.hid (HB3.out.trans (hb4.mono HB3.out.size))
      have HX4 := Lib.hid (HX3.out.below hb4)
      have hlt4 : w.heap.size < w4.heap.size := by have := hb4.size; omega
      have HD4 := Lib.hid (HD3.out.below hb4)
      have HOF : Hid (∀ W : World, Below w4.heap.size w4 W → Chalk.Own (W.alloc (.cells #[.bool false] 4)) (· < w4.heap.size) 4 1 (.slice (some ⟨W.heap.size, 0, none⟩) 1 1) (some W.heap.size) (dbools [false]) ∧ DAt (W.alloc (.cells #[.bool false] 4)) (· < w4.heap.size) (.sl (dbools xs)) [.slice xa xs.length xcap]) := fun W hbW => by
        have h1 : DsAt W (· < w4.heap.size) (dbools [false]) [.bool false] := DsAt.bools (xs := [false])
        refine ⟨?_, ?_⟩
        · have h2 := Chalk.Own.lit (w := W) (F := (· < w4.heap.size)) (e := 4) (sz := 1) (n := 1) (xs := dbools [false]) (cs := [.bool false]) rfl (by decide) rfl h1 (fun k hk => Nat.lt_of_lt_of_le hk hbW.size)
          exact h2
        · exact DAt.agree (agree_of_below (hbW.alloc hbW.size _)) _ _ HX4.out
      have HCL4 : Hid (∀ W : World, Below w4.heap.size w4 W → W.cell? ⟨w.heap.size, 0, none⟩ = some (.int .i64 k0) ∧ W.cell? ⟨w.heap.size, 1, none⟩ = some (.int .i64 k1) ∧ W.cell? ⟨w.heap.size, 2, none⟩ = some (.int .i64 k2) ∧ W.cell? ⟨w.heap.size, 3, none⟩ = some (.slice a1 n1 cap1) ∧ w.heap.size < W.heap.size) := fun W h => ⟨(h.cell hlt4).trans p0, (h.cell hlt4).trans p1, (h.cell hlt4).trans p2, (h.cell hlt4).trans p3, Nat.lt_of_lt_of_le hlt4 h.size⟩
      have HOW := Lib.hid (HOF.out w4 (Below.refl _ _)).1
      have HSR := Lib.hid (HOF.out w4 (Below.refl _ _)).2
      clear hb4 q0 q1 q2 q3 HX3 HD3
      go_wp2_with (at_builtin; go_must (refine wpList_append_src _ (by rfl) _ _ _ rfl 4 i0 _ 1 1 Try.underlying43 hi hz0 hz1 hz2 rfl (by omega) (.slice (some ⟨w4.heap.size, 0, none⟩) 1 1) (.slice xa xs.length xcap) (· < w4.heap.size) (some w4.heap.size) (dbools [false]) (dbools xs) rfl rfl HOW.out HSR.out (by rw [dbools_widths]; simp) (by simp; unfold maxLen; omega) (by simp; omega) ?_); intro oa ocap orow w5 hown hmod hat; simp only [dbools_length, List.length_singleton] at hown ⊢; have HO5 := Lib.hid hown; have hbz := runs_below hmod; have HB45 := Lib.hid hbz; have HAT5 := Lib.hid hat; have hlt45 : w4.heap.size ≤ w5.heap.size := hbz.size; obtain ⟨s0, s1, s2, s3, hlt5⟩ := HCL4.out w5 hbz; clear hown hmod hat hbz)
      have HQ5 : Hid (∀ k, orow = some k → w4.heap.size ≤ k ∧ k < w5.heap.size) := fun k hk => ⟨by rcases HAT5.out with h | h <;> (rw [h] at hk; simp at hk; omega), HO5.out.row_lt hk⟩
      refine (reader_any _ t _ _ (false :: xs) _ orow _ w4.heap.size _ (Nat.le_refl _) HMAY.out (by simp; omega) (by simp) (by have := HTS.out; simp; omega) ((HT.out.later HB4.out HB4.out.size).agree (agree_of_below (HB45.out.alloc hlt45 _))) (by simp; omega) hlt45 (fun k hk => (HQ5.out k hk).1) ⟨heap_alloc_new _ _, (own_none (xs := false :: xs) HO5.out).alloc _, fun h => Nat.lt_irrefl _ (HQ5.out _ h).2⟩).mono ?_
      rintro e w6 ⟨rfl, av6, q6, hrd6, hq6, hm6⟩
      rw [← HLF.out]
      rw [HNW.out] at hrd6
      have hb46 : Below w4.heap.size w4 w6 := (HB45.out.alloc hlt45 _).trans (hm6.below (by simp; omega) (fun k hk => by rcases hk with h | h; omega; exact (HQ5.out k h).1))
      obtain ⟨r0, r1, r2, r3, hlt6⟩ := HCL4.out w6 hb46
      obtain ⟨ra, rcap, hav⟩ := hrd6.own.form
      rw [dbools_length] at hav
      have hal0 : (false :: xs ++ nw).length = xs.length + 1 + nw.length := by simp; omega
      generalize hAL : (false :: xs ++ nw).length = al at *
      subst hav
      have c0 : w6.cell? ⟨w5.heap.size, 0, none⟩ = some (.slice ra al rcap) := cell_of_heap hrd6.box rfl
      have f0 : w6.frozen? ⟨w5.heap.size, 0, none⟩ = false := frozen_of_heap hrd6.box
      have hlt56 : w5.heap.size < w6.heap.size := hrd6.lt
      have HRD := Lib.hid hrd6
      have HQ6 : Hid (∀ k, q6 = some k → w4.heap.size ≤ k) := fun k hk => by
        rcases hq6 with h | ⟨k', h, hk'⟩
        · exact (HQ5.out k (h ▸ hk)).1
        · rw [h] at hk; simp at hk hk'; omega
      have HAL := Lib.hid hAL
      have HAL0 := Lib.hid hal0
      have HB46 := Lib.hid hb46
      have HD6 := Lib.hid (HD4.out.below hb46)
      have HR6 := Lib.hid (own_read2 hrd6.own (by rw [dbools_widths]; simp))
      have hafn : ((xs.length : Int) + 1 + (nw.length : Int)) = (al : Int) := by omega
      rw [hafn]
      have hne1 : (lit != lit) = false := by simp
      have hne2 : ((al : Int) != (al : Int)) = false := by simp
      have HMT := Lib.hid (HMAIN.out nw rfl)
      have HX6 := Lib.hid (HX4.out.below hb46)
      clear hq6 hm6 hrd6 hb46 hAL hal0 s0 s1 s2 s3 hafn p0 p1 p2 p3
      go_wp2_with fail
      have HK6 : Hid (∀ W : World, Below w6.heap.size w6 W → W.cell? ⟨w5.heap.size, 0, none⟩ = some (.slice ra al rcap) ∧ W.cell? ⟨w.heap.size, 0, none⟩ = some (.int .i64 k0) ∧ W.cell? ⟨w.heap.size, 1, none⟩ = some (.int .i64 k1) ∧ W.cell? ⟨w.heap.size, 2, none⟩ = some (.int .i64 k2) ∧ W.cell? ⟨w.heap.size, 3, none⟩ = some (.slice a1 n1 cap1)) := fun W h => ⟨(h.cell hlt56).trans c0, (h.cell hlt6).trans r0, (h.cell hlt6).trans r1, (h.cell hlt6).trans r2, (h.cell hlt6).trans r3⟩
      have HD6' := Lib.hid (HD6.out.below (below_undrew (Below.refl _ _)))
      have HR6' := Lib.hid (HR6.out.below (below_undrew (Below.refl _ _)))
      have hnn : (nw == nw) = true := by simp
      have HNN := Lib.hid hnn
      clear hnn
      go_region_held3 (fun w' => w'.cell? ⟨w5.heap.size, 0, none⟩ = some (.slice ra al rcap) ∧ w'.cell? ⟨w.heap.size, 0, none⟩ = some (.int .i64 k0) ∧ w'.cell? ⟨w.heap.size, 1, none⟩ = some (.int .i64 k1) ∧ w'.cell? ⟨w.heap.size, 2, none⟩ = some (.int .i64 k2) ∧ w'.cell? ⟨w.heap.size, 3, none⟩ = some (.slice a1 n1 cap1)) (first | exact ⟨c0, r0, r1, r2, r3⟩ | exact HK6.out _ HB69.out | exact HK6.out _ HB68.out | exact HK6.out _ HB67.out | exact HK6.out _ (HB67.out.alloc HB67.out.size _)) (first
        | (go_at_call 23; refine (holds_any ls _ (false :: xs ++ nw) _ _ HOK.out (by omega) HD6'.out HR6'.out).mono ?_; rintro e w7 ⟨rfl, hb7⟩; rw [HMT.out.1, HNN.out]; have HB67 := Lib.hid (below_drew hb7); have HR7 := Lib.hid (HR6.out.below HB67.out); have HD7 := Lib.hid (HD6.out.below HB67.out); clear hb7)
        | (go_at_call 24; refine (truth_any lit (false :: xs ++ nw) _ _ (by omega) (by first | exact HR7.out | exact HR7.out.below ((Below.refl _ _).alloc (Nat.le_refl _) _))).mono ?_; rintro e w8 ⟨rfl, rfl⟩; rw [HMT.out.2])
        | (refine step_append_srcg (by rfl) _ _ _ (by rfl) 4 i0 _ 1 1 Try.underlying43 hi hz0 hz1 hz2 rfl (by omega) (.slice (some ⟨w7.heap.size, 0, none⟩) 1 1) (.slice xa xs.length xcap) (· < w4.heap.size) (some w7.heap.size) (dbools [false]) (dbools xs) (by rfl) (by rfl) (HOF.out w7 (HB46.out.trans (HB67.out.mono HB46.out.size))).1 (HOF.out w7 (HB46.out.trans (HB67.out.mono HB46.out.size))).2 (by rw [dbools_widths]; simp) (by simp; unfold maxLen; omega) (by simp; omega) ?_; intro oa2 ocap2 orow2 w8 hown hmod hat; simp only [dbools_length, List.length_singleton] at hown ⊢; have HR8 : Hid (DAt w8 (· < w8.heap.size) (.sl (dbools (false :: xs))) [.slice oa2 (1 + xs.length) ocap2]) := own_read2 hown (by rw [dbools_widths]; simp); have HB68 := Lib.hid (HB67.out.trans ((runs_below hmod).mono HB67.out.size)); clear hown hmod hat)
        | (go_at_call 22; refine (value_any _ t _ _ (false :: xs) _ _ (Nat.le_refl _) (HS20.out) HMAY.out HXN.out (HT.out.later (HB4.out.trans ((HB46.out.trans (HB68.out.mono HB46.out.size)).mono HB4.out.size)) (Nat.le_trans (Nat.le_trans HB4.out.size HB46.out.size) HB68.out.size)) HR8.out).mono ?_; rintro e w9 ⟨rfl, hb9⟩; rw [HVT.out]; have HB69 := Lib.hid (HB68.out.trans (hb9.mono HB68.out.size)); clear hb9))
      all_goals
        have HB49 := Lib.hid (HB46.out.trans (HB69.out.mono HB46.out.size))
        have HBF := Lib.hid (HB4.out.trans (HB49.out.mono HB4.out.size))
        have hvv : (vt != vt) = false := by simp
        have hal1 : (al : Int) ≤ 1000 := by have := HAL0.out; omega
        have hal2 : (xs.length : Int) + 1 ≤ (al : Int) := by have := HAL0.out; omega
        go_upto_region 13 with fail
        rw [show (al : Int) - (xs.length : Int) - 1 = (nw.length : Int) from by have := HAL0.out; omega]
        generalize hnl : nw.length = nl at *
        have HNL := Lib.hid hnl
        clear hnl
        by_cases hpos : 0 < nl
        · have hp1 : decide ((0 : Int) < (nl : Int)) = true := by simp; omega
          have hne0 : ((nl : Int) == 0) = false := by simp; omega
          go_wp2_with fail
          obtain ⟨m, hm⟩ : ∃ m : Nat, turn % (nl : Int) = (m : Int) := ⟨(turn % (nl : Int)).toNat, by have := Int.emod_nonneg turn (b := (nl : Int)) (by omega); omega⟩
          have hmlt : m < nl := by have := Int.emod_lt_of_pos turn (b := (nl : Int)) (by omega); omega
          rw [hm]
          obtain ⟨j, hj⟩ : ∃ j : Nat, j = xs.length + 1 + m := ⟨_, rfl⟩
          rw [show wrap64 ((xs.length : Int) + 1 + (m : Int)) = (j : Int) from by unfold wrap64; omega]
          have hjl : j < al := by have := HAL0.out; omega
          have hj0 : (0 : Int) ≤ (j : Int) := by omega
          have hj1 : (j : Int) < (al : Int) := by omega
          obtain ⟨bb, hbb⟩ : ∃ bb, nw[m]? = some bb := ⟨nw[m]'(by rw [HNL.out]; exact hmlt), List.getElem?_eq_getElem _⟩
          have hbb2 : (false :: xs ++ nw)[j]? = some bb := by
            rw [List.getElem?_append_right (by simp; omega), ← hbb]
            congr 1
            simp; omega
          obtain ⟨g, rfl, hg2, hg3, hg4, hg5, hg6, hg7⟩ := flip_cell (xs := false :: xs ++ nw) HRD.out.own HAL.out j bb hbb2 (!bb)
          have hgb := HQ6.out g hg2
          have hgne : w5.heap.size ≠ g := fun h => HRD.out.ne (by rw [hg2, h])
          have hglt : g < w6.heap.size := HRD.out.own.row_lt hg2
          have HST : Hid ((false :: xs ++ nw).set j (!bb) = false :: xs ++ nw.set m (!bb)) := by
            show _ = _
            rw [List.set_append_right _ _ (by simp; omega)]
            congr 2
            simp; omega
          have HLV := HMAIN.out (nw.set m (!bb)) (by simp [HNL.out])
          have hnee : (nw.set m (!bb) == nw) = false := by
            apply Bool.eq_false_iff.2
            intro h
            have h := congrArg (fun l => l[m]?) (eq_of_beq h)
            rw [List.getElem?_set_self (by rw [HNL.out]; exact hmlt), hbb] at h
            cases bb <;> simp at h
          have HLF2 := Lib.hid (HLV.1.trans hnee)
          clear HLV hnee hbb hbb2
          have d0 : w9.cell? ⟨w5.heap.size, 0, none⟩ = some (.slice (some ⟨g, 0, none⟩) al rcap) := (HB69.out.cell hlt56).trans c0
          have d1 : w9.cell? ⟨g, j, none⟩ = some (.bool bb) := (HB69.out.cell hglt).trans hg3
          have d2 : w9.frozen? ⟨g, j, none⟩ = false := by
            have h := HB69.out.block g hglt
            simp only [World.frozen?] at hg4 ⊢
            rw [h]; exact hg4
          have HG7 := Lib.hid (hg7 w9 HB69.out)
          rw [HST.out] at HG7
          have HBG : Hid (Below w4.heap.size w4 (w9.setCell ⟨g, j, none⟩ (.bool !bb))) := HB49.out.setCell hgb _
          have e0 : (w9.setCell ⟨g, j, none⟩ (.bool !bb)).cell? ⟨w5.heap.size, 0, none⟩ = some (.slice (some ⟨g, 0, none⟩) al rcap) := by rw [World.cell?_setCell_other _ _ _ _ (by simp [Ne.symm hgne])]; exact d0
          clear hg2 hg3 hg4 hg7 hm hj c0 r0 r1 r2 r3
          go_region
          all_goals
            go_wp2_with fail
            refine (holds_any ls _ (false :: xs ++ nw.set m (!bb)) _ _ HOK.out (by omega) (by first | exact HD4.out.below (below_undrew HBG.out) | exact HD4.out.below HBG.out) (by first | exact HG7.out.below (below_undrew (Below.refl _ _)) | exact HG7.out)).mono ?_
            rintro e w10 ⟨rfl, hb10⟩
            rw [HLF2.out]
            have HB10 : Hid (Below w.heap.size w w10) := by
              have h1 : Below w4.heap.size w4 w10 := by first | exact HBG.out.trans ((below_drew hb10).mono HBG.out.size) | exact HBG.out.trans (hb10.mono HBG.out.size)
              exact HB4.out.trans (h1.mono HB4.out.size)
            clear hb10
            go_wp2_with fail
            go_ret
            exact ⟨rfl, HB10.out⟩
        · obtain rfl : nl = 0 := by omega
          go_wp2_with fail
          go_ret
          exact ⟨rfl, HBF.out⟩
    · have hg := gatesF_err t _ herr
      have hne : ((gatesF t ((xs.length : Int) + 1)).2.2.2 != 0) = true := by simpa using herr
      have hce : checkE t (xs.length : Int) ≠ 0 := by
        rcases gatesF_cases t ((xs.length : Int) + 1) (by omega) (by omega) with ⟨hc, hg⟩ | ⟨hc, hw, hg⟩ | ⟨hc, hw, hov, hg⟩ | ⟨hc, hw, hov, hg⟩
        · rw [show (xs.length : Int) + 1 - 1 = (xs.length : Int) from by omega] at hc; exact hc
        · exact absurd hw (by rw [wide_small t (by have := HTS.out; omega)]; simp)
        · have := litF_bound t ((xs.length : Int) + 1) _ (checkE_ok hc).2.2.1 (by omega)
          have := HTS.out
          omega
        · rw [hg] at herr; exact absurd rfl herr
      have hce' : (checkE t (xs.length : Int) != 0) = true := by simpa using hce
      generalize (gatesF t ((xs.length : Int) + 1)).2.2.2 = ec at *
      rw [hg] at HD3 ⊢
      simp only at HD3 ⊢
      obtain ⟨a, b, o, cap, he, _⟩ := lins_open HD3.out
      simp only [List.cons.injEq, and_true, List.length_nil] at he
      subst he
      clear hg herr hce
      go_wp2_with fail
      go_ret
      exact ⟨rfl, HB3.out⟩

set_option maxRecDepth 100000 in
theorem runs_contract (H : Type) (enc : TypeId × Value → H) (W : World) (base : Nat) (args : Array Value) (ds gs : List (DataW H)) (before : List MemPlace)
    (hval : ∀ (j : Nat) t v, Try.f8.params[j]? = some t → args[j]? = some v → Value.okWide Try.prog W .any base t v)
    (hW : DataW.Whole enc Try.prog Try.f8.params.toList Rows.gateRunsSpec.vars false W args.toList ds gs before) (hk : Rows.uptoSmall H (ds ++ gs) = true) :
    Calls Try.prog 8 args W fun e W' => ∃ v, e = .returned v ∧ Rows.gateRunsSpec.post enc Try.prog Try.f8 false true false false W args v W' := by
  have hW' := hW
  obtain ⟨p, q, hA0, hV, rfl, hfz, hnd⟩ := hW
  have r_ : DataW.TrodAll enc Try.prog W 0 (fun _ => true) true Try.f8.params.toList args.toList ds p := hA0
  rw [Try.params8] at r_ hval
  obtain ⟨v0, vs0, d0, ds0, p0, q0, hargs, rfl, rfl, h0, r0⟩ := trodAll_cons r_
  obtain ⟨v1, vs1, d1, ds1, p1, q1, rfl, rfl, rfl, h1, r1⟩ := trodAll_cons r0
  obtain ⟨v2, vs2, d2, ds2, p2, q2, rfl, rfl, rfl, h2, r2⟩ := trodAll_cons r1
  obtain ⟨rfl, rfl, rfl⟩ := trodAll_nil r2
  obtain rfl : args = #[v0, v1, v2] := by cases args; simp_all
  obtain ⟨rfl, rfl⟩ := trodVars_none hV
  obtain ⟨t0, e0, g0⟩ := tree_arg (hval 0 _ v0 rfl rfl) h0
  obtain ⟨t1, e1, g1⟩ := bools_arg (hval 1 _ v1 rfl rfl) h1
  obtain ⟨z2, rfl, rfl, rfl, hw2⟩ := open_int Try.underlying3 (hval 2 _ v2 rfl rfl) h2
  have hb := small_bulk hk
  simp only [List.append_nil, D.ofAll, D.of, D.bulk, bulks, e0, e1] at hb
  have s0 := Tr.bulk_size t0
  have s1 := dbools_bulks t1
  refine (runs_walk t0 v0 t1 v1 z2 W (by omega) g0 (by omega) g1 (wf_i64 hw2)).mono fun e W' ⟨he, hb'⟩ => ?_
  subst he
  exact ⟨_, rfl, law_post laid rfl hW' (by kernel_rfl) rfl Try.underlying4 rfl hb'⟩

set_option maxRecDepth 100000 in
theorem runs_lifted (os : Os) (started : os.Started) (H : Type) (enc : TypeId × Value → H) (F : Stop.Interp) :
    ReturnsInHanded {} Try.checked os 8 .any ((Rows.OpenSpec.upto Rows.gateRunsSpec).pre6 enc Try.prog Try.f8 Rows.gateRunsUptoRow.domain false) (((Rows.OpenSpec.upto Rows.gateRunsSpec).at F).post enc Try.prog Try.f8 false true false false) := by
  refine returnsInHanded_of_cond (C := Try.checked) (s := Rows.OpenSpec.upto Rows.gateRunsSpec) (k := Rows.uptoSmall) rfl own started (by kernel_rfl) Try.func8
    (OpenSpec.witness (enc := enc) (C := Try.checked) (s := Rows.OpenSpec.upto Rows.gateRunsSpec) (k := Rows.uptoSmall) rfl false ⟨#[], #[.agg #[.int .i64 0, .int .i64 0, .int .i64 0, .slice none 0 0], .slice none 0 0, .int .i64 0], []⟩ 8 (by kernel_rfl) (by kernel_rfl) (by kernel_rfl)
      (x := ([.agg [.lit (.int .i64 0), .lit (.int .i64 0), .lit (.int .i64 0), .nil], .nil, .lit (.int .i64 0)], [], [])) (by kernel_rfl) rfl (by kernel_rfl)) ?_
  intro W base args ds gs before hval hW _ hk _
  exact runs_contract H enc W base args ds gs before hval hW hk

theorem runs_proved : Rows.GateRunsUptoSaid :=
  OpenClaim.holds_of_cond 8 Try.f8 rfl rfl rfl rfl rfl rfl rfl ⟨rfl, rfl, rfl, rfl, rfl⟩ rfl rfl rfl rfl rfl (by kernel_rfl) Try.func8 (by kernel_rfl)
    (of_decide_eq_true (by kernel_rfl)) (by unfold Func.isWrapper; first | (rw [if_pos (by decide +kernel)]; kernel_rfl) | (rw [if_neg (by decide +kernel)]; exact ⟨rfl, rfl⟩))
    (fun os started H enc _ F => runs_lifted os started H enc F)

end Go.Proofs.Ytpacnaeckbcpjaa
